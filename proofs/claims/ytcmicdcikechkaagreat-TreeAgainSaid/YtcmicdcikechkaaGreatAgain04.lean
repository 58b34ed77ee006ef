import Derived.Test.YtcmicdcikechkaaGreatAgain03
import Derived.Test.YtcmicdcikechkaaGreatAgain02
import Derived.LoopN
import Derived.Deep.DeepMust
set_option linter.all false
namespace Go.Proofs.YtcmicdcikechkaaGreat
open Go.RowKit Go.H
set_option maxHeartbeats 1000000
set_option maxRecDepth 100000
section
theorem mk1 (w : World) : (Instr.makeSlice 30 (.int .i64 1) (.int .i64 1)).run Tryz.prog w = .ok (.slice (some ⟨w.heap.size, 0, none⟩) 1 1) (w.alloc (.cells #[.int .u8 0] 5)) := by kernel_rfl
theorem mk2 (w : World) : (Instr.makeSlice 30 (.int .i64 2) (.int .i64 2)).run Tryz.prog w = .ok (.slice (some ⟨w.heap.size, 0, none⟩) 2 2) (w.alloc (.cells #[.int .u8 0, .int .u8 0] 5)) := by kernel_rfl
theorem uint1_calls (n : Nat) (hn : n < 128) (w : World) : Calls Tryz.prog 102 #[.int .i64 n] w fun e w' => ∃ v', e = .returned v' ∧ Fr C0 w w' ∧ w'.ownsRow w.heap.size 5 1 v' 1 [bv (UInt8.ofNat n)] := by
  have hm := mk1
  go_enter Tryz.func102, Tryz.ntmps102
  go_wp2
  refine wp_loop_rounds 1 ?_; rw [rounds_succ]
  go_wp2
  refine wp_loop_rounds 2 ?_; rw [rounds_succ]
  go_wp2
  rw [rounds_succ]
  go_wp2
  go_ret
  refine ⟨_, rfl, (Fr.refl _ w).alloc _, ?_⟩
  have e : Value.int IntKind.u8 (bits BinOp.and IntKind.i64 (↑n) 127 % 256) = bv (UInt8.ofNat n) := by
    rw [hb64_and127 (by omega) (by omega)]; simp [bv] <;> omega
  rw [e]
  exact World.ownsRow_lit w #[bv (UInt8.ofNat n)] 1 (Nat.le_refl _) (by unfold maxLen; omega) rfl
theorem uint2_calls (n : Nat) (hn : 128 ≤ n) (hn2 : n < 16384) (w : World) : Calls Tryz.prog 102 #[.int .i64 n] w fun e w' => ∃ v', e = .returned v' ∧ Fr C0 w w' ∧ w'.ownsRow w.heap.size 5 1 v' 2 [bv (UInt8.ofNat (128 + n / 128)), bv (UInt8.ofNat (n % 128))] := by
  have hm := mk2
  go_enter Tryz.func102, Tryz.ntmps102
  go_wp2
  refine wp_loop_rounds 2 ?_; rw [rounds_succ]
  go_wp2
  rw [rounds_succ]
  go_wp2
  refine wp_loop_rounds 3 ?_; rw [rounds_succ]
  go_wp2
  rw [rounds_succ]
  go_wp2
  rw [rounds_succ]
  go_wp2
  go_ret
  refine ⟨_, rfl, (Fr.refl _ w).alloc _, ?_⟩
  have e1 : Value.int IntKind.u8 (bits BinOp.and IntKind.i64 (↑n) 127 % 256) = bv (UInt8.ofNat (n % 128)) := by
    rw [hb64_and127 (by omega) (by omega)]; simp [bv] <;> omega
  have e2 : Value.int IntKind.u8 (bits BinOp.or IntKind.u8 (bits BinOp.and IntKind.i64 (↑n / 128) 127 % 256) 128) = bv (UInt8.ofNat (128 + n / 128)) := by
    rw [hb64_and127 (by omega) (by omega), hb8_or128 (by omega) (by omega)]; simp [bv] <;> omega
  rw [e1, e2]
  exact World.ownsRow_lit w #[bv (UInt8.ofNat (128 + n / 128)), bv (UInt8.ofNat (n % 128))] 2 (Nat.le_refl _) (by unfold maxLen; omega) rfl
theorem uint_calls (n : Nat) (hn2 : n < 16384) (w : World) : Calls Tryz.prog 102 #[.int .i64 n] w fun e w' => ∃ v', e = .returned v' ∧ Fr C0 w w' ∧ w'.ownsRow w.heap.size 5 1 v' (uintB n).length ((uintB n).map bv) := by
  unfold uintB
  by_cases h : n < 128
  · rw [if_pos h]; exact uint1_calls n h w
  · rw [if_neg h]; exact uint2_calls n (by omega) hn2 w
end
section
theorem bytes_str {F : Nat → Prop} {w : World} {v : Value} {l : List UInt8} (h : BytesAt F w v l) : (convert 30 9 v).run Tryz.prog w = .ok (.string ⟨l.toArray⟩) w := bytes_string h Tryz.underlying30 Tryz.underlying5 Tryz.underlying9
@[go_sem] theorem eql_nil_u8 (n c : Nat) (w : World) : (binOp .eql 30 (.slice none n c) (.slice none 0 0)).run Tryz.prog w = .ok (.bool true) w := Lib.run_eql_slice_nil w 30 5 none n c 0 0 Tryz.underlying30
@[go_sem] theorem eql_some_u8 (a : Addr) (n c : Nat) (w : World) : (binOp .eql 30 (.slice (some a) n c) (.slice none 0 0)).run Tryz.prog w = .ok (.bool false) w := Lib.run_eql_slice_nil w 30 5 (some a) n c 0 0 Tryz.underlying30
@[go_sem] theorem build0_u8 (w : World) : (Instr.buildSlice 30 0 #[]).run Tryz.prog w = .ok (.slice (some ⟨w.heap.size, 0, none⟩) 0 0) (w.alloc (.cells #[] 5)) := by kernel_rfl
theorem beq_dec {α : Type} [BEq α] [LawfulBEq α] [DecidableEq α] (a b : α) : (a == b) = decide (a = b) := by by_cases h : a = b <;> simp [h]
theorem equal_calls {F G : Nat → Prop} {w : World} {u v : Value} {a b : List UInt8} (ha : BytesAt F w u a) (hb : BytesAt G w v b) :
    Calls Tryz.prog 115 #[u, v] w fun e w' => e = .returned (.bool (decide (a = b))) ∧ w = w' := by
  have h1 := bytes_str ha
  have h2 := bytes_str hb
  have HE := Lib.hid (string_eq a b)
  obtain ⟨A, c, rfl, -⟩ := ha.form
  obtain ⟨A', c', rfl, -⟩ := hb.form
  clear ha hb
  go_enter Tryz.func115, Tryz.ntmps115
  go_wp2
  go_ret
  refine ⟨?_, rfl⟩
  simp [beq_dec]
theorem clone_calls {F : Nat → Prop} {w : World} {v : Value} {l : List UInt8} (h : BytesAt F w v l) (hn : l.length ≤ 100000) :
    Calls Tryz.prog 42 #[v] w fun e w' => ∃ v', e = .returned v' ∧ Fr C0 w w' ∧ BytesAt (fun b => w.heap.size ≤ b) w' v' l := by
  have HR := Lib.hid (h.row.mono (F' := fun b => b < w.heap.size) (fun b _ h => h))
  obtain ⟨A, c, rfl, h1, h2⟩ := h.form
  cases A with
  | none =>
    have hl : l = [] := by
      cases l with
      | nil => rfl
      | cons x l => obtain ⟨A', c', he, _, _, h3⟩ := h; injection he with e1; subst e1; obtain ⟨g, o, h4, _⟩ := h3 (by simp); cases h4
    subst hl
    go_enter Tryz.func42, Tryz.ntmps42
    go_wp2
    go_ret
    exact ⟨_, rfl, Fr.refl _ _, ⟨none, 0, rfl, Nat.le_refl _, by unfold maxLen; omega, fun h => absurd rfl h⟩⟩
  | some a =>
    go_enter Tryz.func42, Tryz.ntmps42
    go_wp2_with (at_builtin; go_must (refine wpl_app sl_u8 rfl _ _ rfl (v := .slice (some ⟨w.heap.size, 0, none⟩) 0 0) (xv := .slice (some a) l.length c) rfl rfl (B := w.heap.size) (World.ownsRow_lit w #[] 0 (Nat.le_refl _) (by unfold maxLen; omega) rfl) (HR.out.fr0 ((Fr.refl C0 w).alloc _)) (oneCell_bv l) (by unfold maxLen; omega) (by omega) (by simp) ?_); intro v2 w2 o2 f2 k2 nil2)
    go_ret
    refine ⟨v2, rfl, ((Fr.refl C0 w).alloc _).transO f2 (fun b e => by simp [Value.ownBlock] at e; omega), BytesAt.ofOwn (by simpa using o2) (fun b e => (o2.lt b e).1)⟩
theorem mkn (n : Nat) (hn : n ≤ 100000) (w : World) : (Instr.makeSlice 30 (.int .i64 n) (.int .i64 n)).run Tryz.prog w = .ok (.slice (some ⟨w.heap.size, 0, none⟩) n n) (w.alloc (.cells (zerosV n).toArray 5)) := by
  obtain ⟨i, h1, h2, h3, h4⟩ := info_parts (P := Tryz.prog) (e := 5) (z := .int .u8 0) (size := 1) (bytes := 1) (by kernel_rfl)
  have := run_make (P := Tryz.prog) w 30 5 i (.int .u8 0) sl_u8.u h1 h2 .i64 .i64 n n (by omega) (Int.le_refl _) (by rw [h4]; omega) (by omega)
  rw [this]
  simp only [Int.toNat_natCast, h3, Nat.mul_one, Value.cells]
  congr 3
  apply Array.toList_inj.1
  rw [toList_madeCells_one]
  simp [bv, zerosV]
theorem mk8k (w : World) : (Instr.makeSlice 30 (.int .i64 8192) (.int .i64 8192)).run Tryz.prog w = .ok (.slice (some ⟨w.heap.size, 0, none⟩) 8192 8192) (w.alloc (.cells (zerosV 8192).toArray 5)) := mkn 8192 (by omega) w
theorem zero_calls {F : Nat → Prop} {w : World} {v : Value} {l : List UInt8} (h : BytesAt F w v l) (hn : l.length ≤ 100000) :
    Calls Tryz.prog 113 #[v] w fun e w' => e = .returned (.bool (decide (l = List.replicate l.length 0))) ∧ Fr C0 w w' := by
  have HR := Lib.hid h
  obtain ⟨A, c, rfl, h1, h2⟩ := h.form
  have hmk := mkn l.length hn
  go_enter Tryz.func113, Tryz.ntmps113
  go_wp2_with fail
  refine (equal_calls (HR.out.fr0 ((Fr.refl C0 w).alloc _)) (F := F) (G := fun b => w.heap.size ≤ b) (b := List.replicate l.length 0) ?_).mono ?_
  · refine bytesAt_row.2 ?_
    have := Row.ofBlock (F := fun b => w.heap.size ≤ b) (n := l.length) (size := 1) (heap_alloc_new w (.cells (zerosV l.length).toArray 5)) (Nat.le_refl _) (by unfold maxLen; omega) (by simp [zerosV])
    simpa [zerosV] using this
  rintro e w1 ⟨rfl, rfl⟩
  go_wp2
  go_ret
  exact ⟨rfl, (Fr.refl C0 w).alloc _⟩
end
section
abbrev DiskA := DiskAt 123 153
theorem whole_calls {F : Nat → Prop} {w : World} {v : Value} {l : Bs} (h : BytesAt F w v l) (hn : l.length ≤ 8192) :
    Calls Tryz.prog 105 #[v] w fun e w' => e = .returned (.slice (some ⟨w.heap.size, 0, none⟩) 8192 8192) ∧ w'.heap[w.heap.size]? = some (.cells ((padB l).map bv).toArray 5 (0, 0)) ∧ Fr C0 w w' := by
  have HR := Lib.hid h.row
  obtain ⟨A, c, rfl, h1, h2⟩ := h.form
  clear h
  have hm := mk8k
  go_enter Tryz.func105, Tryz.ntmps105
  go_wp2_with (go_loud (refine wpl_copy sl_u8 rfl _ _ rfl (g := w.heap.size) (off := 0) (dLen := 8192) (dCap := 8192) rfl rfl (heap_alloc_new w _) (HR.out.fr0 ((Fr.refl C0 w).alloc _)) (oneCell_bv l) (by simp [zerosV_length]; omega) ?_); intro w1 h1 f1)
  rw [pad_splice hn] at h1
  go_ret
  exact ⟨rfl, h1, ((Fr.refl C0 w).alloc _).trans f1 (fun i hi e => absurd e (by omega))⟩
end
section
theorem lookup_kept {F : Nat → Prop} {w : World} {m : Nat} {L : List (Int × Bs)} (h : KeptAt F w m L) (k : Int) :
    ∃ v, (Instr.lookup 120 (.map (some m)) (.int .i64 k) false).run Tryz.prog w = .ok v w ∧ BytesAt F w v ((aget k L).getD []) ∧ ((aget k L).getD []).length ≤ 8192 := by
  obtain ⟨M, h1, h2⟩ := h
  have hz : (zeroValue 30).run Tryz.prog w = .ok (.slice none 0 0) w := by kernel_rfl
  have hl := run_lookup_int (P := Tryz.prog) (T := 120) (K := 3) (E := 30) Tryz.underlying120 Tryz.underlying3 hz h1 k false
  rcases kept_get h2 (k := k) with ⟨v, b, e1, e2, e3, e4⟩ | ⟨e1, e2⟩
  · refine ⟨v, ?_, by rw [e2]; exact e3, by rw [e2]; exact e4⟩
    rw [hl, mget_eq, e1]; rfl
  · refine ⟨.slice none 0 0, ?_, by rw [e2]; exact ⟨none, 0, rfl, Nat.le_refl _, by unfold maxLen; omega, fun h => absurd rfl h⟩, by rw [e2]; simp⟩
    rw [hl, mget_eq, e1]; rfl
theorem good_calls {F : Nat → Prop} {w : World} {d m : Nat} {ov : Value} {s : DSt} (h : DiskA F w d m ov s) (k : Nat) :
    Calls Tryz.prog 112 #[.pointer (some ⟨d, 0, none⟩), .int .i64 (k : Int)] w fun e w' => e = .returned (.slice (some ⟨w.heap.size, 0, none⟩) 8192 8192) ∧ w'.heap[w.heap.size]? = some (.cells ((s.good k).map bv).toArray 5 (0, 0)) ∧ Fr C0 w w' := by
  have hb := h.blk
  have h1 := blk_cell hb 1 rfl
  obtain ⟨v, hl, hv, hn⟩ := lookup_kept h.kept k
  have HW := Lib.hid (whole_calls hv hn)
  clear h hv hn hb
  go_enter Tryz.func112, Tryz.ntmps112
  go_wp2_with fail
  refine HW.out.mono ?_
  rintro e w' ⟨rfl, h2, h3⟩
  go_wp2
  go_ret
  exact ⟨rfl, h2, h3⟩
theorem blocks_calls {F : Nat → Prop} {w : World} {d m : Nat} {ov : Value} {s : DSt} (h : DiskA F w d m ov s) :
    Calls Tryz.prog 92 #[.pointer (some ⟨d, 0, none⟩)] w fun e w' => e = .returned (.int .i64 s.blocks) ∧ w = w' := by
  have h1 := blk_cell h.blk 0 rfl
  clear h
  go_enter Tryz.func92, Tryz.ntmps92
  go_wp2
  go_ret
  exact ⟨rfl, rfl⟩
theorem down_calls {F : Nat → Prop} {w : World} {d m : Nat} {ov : Value} {s : DSt} (h : DiskA F w d m ov s) :
    Calls Tryz.prog 26 #[.pointer (some ⟨d, 0, none⟩)] w fun e w' => e = .returned (.bool s.down) ∧ w = w' := by
  have h1 := blk_cell h.blk 3 rfl
  clear h
  go_enter Tryz.func26, Tryz.ntmps26
  go_wp2
  go_ret
  exact ⟨rfl, rfl⟩
theorem life_calls {F : Nat → Prop} {w : World} {d m : Nat} {ov : Value} {s : DSt} (h : DiskA F w d m ov s) :
    Calls Tryz.prog 93 #[.pointer (some ⟨d, 0, none⟩)] w fun e w' => e = .returned (.int .i64 s.life) ∧ w = w' := by
  have h1 := blk_cell h.blk 4 rfl
  clear h
  go_enter Tryz.func93, Tryz.ntmps93
  go_wp2
  go_ret
  exact ⟨rfl, rfl⟩
theorem strikes0_calls {F : Nat → Prop} {w : World} {d m : Nat} {ov : Value} {s : DSt} (h : DiskA F w d m ov s) (ha : s.after < 1) :
    Calls Tryz.prog 104 #[.pointer (some ⟨d, 0, none⟩)] w fun e w' => e = .returned (.bool false) ∧ w = w' := by
  have h1 := blk_cell h.blk 5 rfl
  clear h
  go_enter Tryz.func104, Tryz.ntmps104
  go_wp2
  go_ret
  exact ⟨rfl, rfl⟩
@[go_sem] theorem mk_kept (w : World) : (Instr.makeMap 120 none).run Tryz.prog w = .ok (.map (some w.heap.size)) (w.alloc (.map #[] 0)) := by kernel_rfl
@[go_sem] theorem mk_ints (w : World) : (Instr.makeMap 74 none).run Tryz.prog w = .ok (.map (some w.heap.size)) (w.alloc (.map #[] 0)) := by kernel_rfl
theorem new_calls (w : World) (n : Nat) (h1 : 1 ≤ n) (h2 : n ≤ 4096) :
    Calls Tryz.prog 37 #[.int .i64 (n : Int)] w fun e w' => e = .returned (.tuple #[.pointer (some ⟨w.heap.size + 1, 0, none⟩), .int .i64 0]) ∧ Fr C0 w w' ∧ w'.heap.size = w.heap.size + 2 ∧ DiskA (fun _ => False) w' (w.heap.size + 1) w.heap.size (.slice none 0 0) ⟨n, [], [], false, 0, 0, 0, 0, 0⟩ := by
  go_enter Tryz.func37, Tryz.ntmps37
  go_wp2
  go_ret2
  refine ⟨rfl, ((Fr.refl C0 w).alloc _).alloc _, by simp, ⟨?_, ?_, ⟨[], World.ownsRow_nil _ _ _ _, .nil⟩, by simp⟩⟩
  · have := heap_alloc_new (w.alloc (.map #[] 0)) (.cells #[.int .i64 n, .map (some w.heap.size), .slice none 0 0, .bool false, .int .i64 0, .int .i64 0, .int .u64 0, .int .i64 0, .int .i64 0] 123)
    simpa using this
  · refine ⟨[], (MapIs.made w).fr ((Fr.refl C0 _).alloc _) (fun h => h), .nil⟩
end
section
theorem read_calls {F : Nat → Prop} {w : World} {d m : Nat} {ov : Value} {s : DSt} (h : DiskA F w d m ov s) (hd : s.down = false) (k : Nat) (hk : k < s.blocks) :
    Calls Tryz.prog 94 #[.pointer (some ⟨d, 0, none⟩), .int .i64 (k : Int)] w fun e w' => e = .returned (.tuple #[.slice (some ⟨w.heap.size, 0, none⟩) 8192 8192, .int .i64 0]) ∧ w'.heap[w.heap.size]? = some (.cells ((s.read k).map bv).toArray 5 (0, 0)) ∧ Fr C0 w w' := by
  have h0 := blk_cell h.blk 0 rfl
  have h2 := blk_cell h.blk 2 rfl
  have h3 := blk_cell h.blk 3 rfl
  have HG := Lib.hid (good_calls h k)
  obtain ⟨xs, o1, o2⟩ := h.opn
  have HR := Lib.hid (Row.ofOwn o1 (F := fun b => True) (fun _ _ => trivial))
  have HO := Lib.hid o2
  have hs := h.small
  obtain ⟨A, c, rfl, hc1, hc2⟩ := HR.out.form
  clear h o1 o2
  rw [hd] at h3
  go_enter Tryz.func94, Tryz.ntmps94
  go_wp2
  go_loopw [4, 5, 6] (fun a b i wr => ∃ n : Nat, n ≤ s.opn.length ∧ a = .slice none 0 0 ∧ b = .int .i64 0 ∧ i = .int .i64 ((n : Int) - 1) ∧ wr = w ∧ Hid (lastOpen k (s.opn.take n) = lastOpen k s.opn)) (fun _ _ i _ => (intOf i + 1).toNat)
  case atStart => exact ⟨s.opn.length, Nat.le_refl _, rfl, rfl, by go_num, rfl, Lib.hid (by rw [List.take_length])⟩
  case round =>
    obtain ⟨n, hn, rfl, rfl, rfl, rfl, HA⟩ := hrel
    cases n with
    | succ n =>
      have HT := Lib.hid (lastOpen_take (k := k) (l := s.opn) (n := n) hn)
      obtain ⟨q1, v, q2, q3, q4⟩ := HO.out.at_ n hn
      obtain ⟨g, o, rfl, _, hc⟩ := HR.out.cells q1
      have r1 := hc _ _ q1
      have r2 : wr.cell? ⟨g, o + n * 2 + 1, none⟩ = some v := hc _ _ q2
      have HW := Lib.hid (whole_calls q3 (Nat.le_of_eq q4))
      clear q1 q2 q3 q4 hc HO HR
      have e1 : (n : Int) + 1 - 1 = (n : Int) := by omega
      by_cases hat : s.opn[n].1 = k
      · rw [if_pos hat] at HT
        rw [hat] at r1
        go_wp2_with fail
        refine HW.out.mono ?_
        rintro e w' ⟨rfl, h4, h5⟩
        go_wp2
        go_ret2
        refine ⟨rfl, ?_, h5⟩
        rw [h4, DSt.read, ← HA.out, HT.out]
      · rw [if_neg hat] at HT
        have hat2 : ¬ (s.opn[n].1 : Int) = (k : Int) := by omega
        go_wp2
        go_roundw
        case rel => exact ⟨n, by omega, rfl, rfl, by go_num, by trivial, Lib.hid (by rw [← HT.out]; exact HA.out)⟩
        case measure => simp [intOf]
    | zero =>
      clear HO HR
      go_wp2_with fail
      refine HG.out.mono ?_
      rintro e w' ⟨rfl, h4, h5⟩
      go_wp2
      go_ret2
      refine ⟨rfl, ?_, h5⟩
      have := HA.out
      rw [h4, DSt.read, ← this]
      rfl
end
section
theorem lay_calls {F : Nat → Prop} {w : World} {d m k n : Nat} {ov v : Value} {s : DSt} {b : Bs} (h : DiskA F w d m ov s) (hv : BytesAt F w v b) (hb : b.length = 8192) (hn : n ≤ 8192) (hF : ∀ b, w.heap.size ≤ b → F b) (hm : ¬ F m) (hdm : d ≠ m) (hom : ∀ b, ov.ownBlock = some b → b ≠ m) :
    Calls Tryz.prog 89 #[.pointer (some ⟨d, 0, none⟩), .agg #[.int .i64 (k : Int), v], .int .i64 (n : Int)] w fun e w' => e = .returned (.tuple #[]) ∧ DiskA F w' d m ov (s.lay k b n) ∧ Fr (fun b => b = m) w w' := by
  have HG := Lib.hid (good_calls (h.fr0 ((Fr.refl C0 w).alloc (.cells #[.int .i64 (k : Int), v] 153))) k)
  have HD := Lib.hid h
  have HV := Lib.hid (show Row F w v 8192 1 (b.map bv) by rw [← hb]; exact hv.row)
  have h1 := blk_cell h.blk 1 rfl
  obtain ⟨A, c, rfl, hc1, hc2⟩ := hv.form
  have HK : (s.good k).length = 8192 := h.good_length k
  rw [hb] at hc1 HV HG ⊢
  clear h hv
  go_enter Tryz.func89, Tryz.ntmps89
  go_wp2_with fail
  refine HG.out.mono ?_
  rintro e w1 ⟨rfl, g1, f1⟩
  go_wp2
  have HF1 : Hid (Fr C0 w w1) := ((Fr.refl C0 w).alloc _).trans0 f1
  have b0 := f1.cell0 (blk_cell (heap_alloc_new w (.cells #[.int .i64 (k : Int), .slice A 8192 c] 153)) 0 rfl)
  have b1 := f1.cell0 (blk_cell (heap_alloc_new w (.cells #[.int .i64 (k : Int), .slice A 8192 c] 153)) 1 rfl)
  have G1 := Lib.hid g1; clear g1
  have hnc : n ≤ c := by omega
  have hn8 : (n : Int) ≤ 8192 := by omega
  have hnc2 : (n : Int) ≤ (c : Int) := by omega
  refine wp_region_L (Fr (fun b => b = w.heap.size + 1) w1) [7] (by kernel_rfl) ?_
  have hSw0 : (Fr (fun b => b = w.heap.size + 1) w1) _ := (Fr.refl _ w1).drew
  refine tk 0 hSw0 ?_
  refine tk 1 hSw0 ?_
  refine tk 2 hSw0 ?_
  refine tk 3 hSw0 ?_
  refine tk 4 hSw0 ?_ (hy := by intro w_ hS_; have b2 := hS_.cell b1 (show ¬ w.heap.size = w.heap.size + 1 by omega); first | (go_simp; done) | (go_simp; with_reducible rfl))
  refine tk 5 hSw0 ?_
  refine tk 6 hSw0 ?_
  refine late_ 7 rfl (fun K hK => ?_)
  refine wp_copy sl_u8 _ _ rfl (g := w.heap.size + 1) (off := 0) (dLen := n) (dCap := 8192) rfl rfl (cur := (s.good k).map bv) ((Fr.refl C0 w1).drew.blk (by simpa using G1.out) (fun h => h)) (((HV.out.fr0 HF1.out).take hn).fr0 (Fr.refl C0 w1).drew) (oneCell_take (oneCell_bv b)) (by rw [Nat.zero_add, List.length_map, HK]; omega) ?_
  intro w2 g2 f2
  have hSw1 := hSw0.trans f2 (fun _ _ h => h)
  refine hK.out _ _ ?_; clear hK K
  try simp only [Act.put, List.setIfInBounds_toArray, List.set_cons_zero, List.set_cons_succ]
  refine wpAnyL_done (by kernel_rfl) ?_ _
  have HF2 : Hid (Fr C0 w w2) := HF1.out.trans hSw1 (fun i hi h => absurd h (by omega))
  have G2 : Hid (w2.heap[w.heap.size + 1]? = some (.cells ((b.take n ++ (s.good k).drop n).map bv).toArray 5 (0, 0))) := by
    refine Lib.hid ?_
    rw [g2, lay_splice (by omega)]
  have b0 := hSw1.cell b0 (show ¬ w.heap.size = w.heap.size + 1 by omega)
  have d1 := HF2.out.cell0 h1
  clear g2 h1 b1
  obtain ⟨M, m1, m2⟩ := HD.out.kept
  have HM := Lib.hid (m1.fr HF2.out (fun h => h))
  have HBY : Hid (BytesAt F w2 (.slice (some ⟨w.heap.size + 1, 0, none⟩) 8192 8192) (b.take n ++ (s.good k).drop n)) := by
    refine Lib.hid (bytesAt_row.2 ?_)
    have := Row.ofBlock (F := F) (n := 8192) (size := 1) G2.out (hF _ (by omega)) (by unfold maxLen; omega) (by simp [hb, HK]; omega)
    have hl : (b.take n ++ (s.good k).drop n).length = 8192 := by simp [hb, HK]; omega
    rw [hl]
    simpa using this
  clear m1
  go_wp2
  refine wp_region_L (Fr C0 w2) [7] (by kernel_rfl) ?_
  have hSw0 : (Fr C0 w2) _ := (Fr.refl _ w2).drew
  refine tk 0 hSw0 ?_
  refine tk 1 hSw0 ?_
  refine tk 2 hSw0 ?_
  refine tk 3 hSw0 ?_ (hy := by intro w_ hS_; have b2 := hS_.cell0 b0; have d2 := hS_.cell0 d1; first | (go_simp; done) | (go_simp; with_reducible rfl))
  refine tk 4 hSw0 ?_
  refine tk 5 hSw0 ?_ (hy := by intro w_ hS_; have b2 := hS_.cell0 b0; have d2 := hS_.cell0 d1; first | (go_simp; done) | (go_simp; with_reducible rfl))
  refine tk 6 hSw0 ?_
  refine late_ 7 rfl (fun K hK => ?_)
  refine wp_update Tryz.underlying120 Tryz.underlying3 _ _ _ rfl rfl rfl rfl (HM.out.fr hSw0 (fun h => h)) ?_
  intro w3 n3 f3
  have hSw3 := hSw0
  refine hK.out _ _ ?_; clear hK K
  try simp only [Act.put, List.setIfInBounds_toArray, List.set_cons_zero, List.set_cons_succ]
  refine wpAnyL_done (by kernel_rfl) ?_ _
  clear HV
  go_wp2
  go_end0
  have F3 : Fr (fun b => b = m) w w3 := (HF2.out.mono (fun _ _ h => h.elim)).trans ((hSw3.mono (fun _ _ h => h.elim)).trans f3 (fun _ _ h => h)) (fun _ _ h => h)
  have F4 : Fr (fun b => b = m) w2 w3 := (hSw3.mono (fun _ _ h => h.elim)).trans f3 (fun _ _ h => h)
  refine ⟨rfl, ⟨?_, ?_, ?_, HD.out.small⟩, F3⟩
  · exact F3.blk HD.out.blk hdm
  · have hFm : ∀ b, F b → ¬ b = m := fun b hb h => hm (h ▸ hb)
    exact KeptAt.set (m2.imp fun _ _ h => ⟨h.1, h.2.1.fr F3 hFm, h.2.2⟩) n3 (HBY.out.fr F4 hFm) (by rw [List.length_append, List.length_take, List.length_drop, HK]; omega)
  · obtain ⟨xs, o1, o2⟩ := HD.out.opn
    exact ⟨xs, own_kept o1 F3 hom, o2.fr F3 (fun b hb h => hm (h ▸ hb))⟩
end
section
theorem write_calls {F : Nat → Prop} {w : World} {d m k : Nat} {ov v : Value} {s : DSt} {b : Bs} (h : DiskA F w d m ov s) (hd : s.down = false) (ha : s.after < 1) (hk : k < s.blocks) (hv : BytesAt F w v b) (hb : b.length ≤ 8192) (ho : s.opn.length < 100000)
    (hm : ¬ F m) (hdF : ¬ F d) (hdm : d ≠ m) (hom : ∀ b, ov.ownBlock = some b → b ≠ m) (hod : ∀ b, ov.ownBlock = some b → b ≠ d) (hoF : ∀ b, ov.ownBlock = some b → ¬ F b) :
    Calls Tryz.prog 80 #[.pointer (some ⟨d, 0, none⟩), .int .i64 (k : Int), v] w fun e w' => e = .returned (.int .i64 0) ∧
      ∃ ov', (∀ b, ov'.ownBlock = some b → ov.ownBlock = some b ∨ w.heap.size ≤ b) ∧ DiskA (fun b => F b ∨ (w.heap.size ≤ b ∧ ov'.ownBlock ≠ some b)) w' d m ov' { s with opn := s.opn ++ [(k, padB b)] } ∧ Fr (fun b => ov.ownBlock = some b ∨ b = d) w w' := by
  have HS := Lib.hid (strikes0_calls h ha)
  have HW := Lib.hid (whole_calls (hv.fr0 (Fr.refl C0 w).drew) hb)
  have HD := Lib.hid h
  have h3 := blk_cell h.blk 3 rfl
  have h2 := blk_cell h.blk 2 rfl
  have h0 := blk_cell h.blk 0 rfl
  have z2 := blk_free 2 h.blk
  have hl := h.blk
  obtain ⟨xs, o1, o2⟩ := h.opn
  obtain ⟨A, c, rfl, hA⟩ := own_form o1
  obtain ⟨Av, cv, rfl, -⟩ := id hv
  have O1 := Lib.hid o1
  have O2 := Lib.hid o2
  clear h o1 o2 hv hl hA
  rw [hd] at h3
  go_enter Tryz.func80, Tryz.ntmps80
  go_wp2_with fail
  refine HS.out.mono ?_
  rintro e w1 ⟨rfl, rfl⟩
  go_wp2
  refine wp_region_L (Fr (fun b => (Value.slice A s.opn.length c).ownBlock = some b) w) [13] (by kernel_rfl) ?_
  have hSw0 : (Fr (fun b => (Value.slice A s.opn.length c).ownBlock = some b) w) _ := (Fr.refl _ w).drew
  refine tk 0 hSw0 ?_
  refine tk 1 hSw0 ?_
  refine tk 2 hSw0 ?_
  refine tk 3 hSw0 ?_
  refine tk 4 hSw0 ?_ (hy := by intro w_ hS_; have b2 := hS_.cell h2 (fun h => hod _ h rfl); first | (go_simp; done) | (go_simp; with_reducible rfl))
  refine tk 5 hSw0 ?_
  refine tk 6 hSw0 ?_
  refine one_ 7 rfl (fun K hK => ?_)
  go_simp
  refine HW.out.mono ?_
  rintro e w1 ⟨rfl, g1, f1⟩
  simp only []
  refine hK.out _ _ ?kS1 (fun hSw1 => ?kR1)
  case kS1 => exact hSw0.trans0 f1
  clear hK K
  try simp only [Act.put, List.setIfInBounds_toArray, List.set_cons_zero, List.set_cons_succ]
  refine tk 8 hSw1 ?_
  refine one_ 9 rfl (fun K hK => ?_)
  go_simp
  refine hK.out _ _ ?kS2 (fun hSw2 => ?kR2)
  case kS2 => exact hSw1.alloc _
  clear hK K
  try simp only [Act.put, List.setIfInBounds_toArray, List.set_cons_zero, List.set_cons_succ]
  refine one_ 10 rfl (fun K hK => ?_)
  refine wp_app sl_open _ _ rfl (v := .slice A s.opn.length c) (xv := .slice (some ⟨w1.heap.size, 0, none⟩) 1 1) rfl rfl (B := 0) (own_kept O1.out (((Fr.refl C0 w).drew.trans0 f1).alloc _) (fun _ _ h => h)) (F := fun _ => True) (Row.ofBlock (n := 1) (size := 2) (heap_alloc_new w1 _) trivial (by unfold maxLen; omega) rfl) (by simp [Value.oneCell']) (by unfold maxLen; omega) (by omega) (Nat.zero_le _) ?_
  intro v2 w2 o2 f2 k2 nil2
  have hSw2 := hSw1.alloc (.cells #[.int .i64 (k : Int), .slice (some ⟨w.heap.size, 0, none⟩) 8192 8192] 153)
  refine hK.out _ _ ?kS3 (fun hSw3 => ?kR3)
  case kS3 => exact hSw2.trans f2 (fun _ _ h => h)
  clear hK K
  try simp only [Act.put, List.setIfInBounds_toArray, List.set_cons_zero, List.set_cons_succ]
  refine tk 11 hSw3 ?_
  refine tk 12 hSw3 ?_
  refine late_ 13 rfl (fun K hK => ?_)
  have b13 := hSw3.cell h2 (fun h => hod _ h rfl)
  have z13 := (hSw3.frozen (p := ⟨d, 2, none⟩) (World.block_lt_of_cell? w _ h2) (fun h => hod _ h rfl)).trans z2
  obtain ⟨A2, c2, rfl, hA2⟩ := own_form o2
  go_simp
  refine hK.out _ _ ?_; clear hK K
  try simp only [Act.put, List.setIfInBounds_toArray, List.set_cons_zero, List.set_cons_succ]
  refine wpAnyL_done (by kernel_rfl) ?_ _
  go_wp2
  go_ret
  have hl := HD.out.blk
  have hFr : Fr (fun b => (Value.slice A s.opn.length c).ownBlock = some b) w w2 := hSw3
  have hb2 := hFr.blk hl (fun h => hod _ h rfl)
  have hb3 := blk_set (i := 2) hb2 (.slice A2 (s.opn.length + 1) c2)
  have FS : Fr (fun b => b = d) w2 (w2.setCell ⟨d, 2, none⟩ (.slice A2 (s.opn.length + 1) c2)) := (Fr.refl (fun b => b = d) w2).setCell (.inr rfl) _
  have FA : Fr (fun b => (Value.slice A s.opn.length c).ownBlock = some b ∨ b = d) w (w2.setCell ⟨d, 2, none⟩ (.slice A2 (s.opn.length + 1) c2)) := (hFr.mono (fun _ _ h => .inl h)).trans FS (fun _ _ h => .inr h)
  have hdF2 : ∀ b, F b → ¬ ((Value.slice A s.opn.length c).ownBlock = some b ∨ b = d) := fun b hb h => h.elim (fun h => hoF b h hb) (fun h => hdF (h ▸ hb))
  have k3 : ∀ b, (Value.slice A2 (s.opn.length + 1) c2).ownBlock = some b → (Value.slice A s.opn.length c).ownBlock = some b ∨ w.heap.size ≤ b := fun b hb => (k2 b hb).imp id (fun h => by have := f1.size; simp at h this; omega)
  refine ⟨rfl, _, k3, ⟨?_, ?_, ⟨xs ++ [.int .i64 (k : Int), .slice (some ⟨w.heap.size, 0, none⟩) 8192 8192], ?_, ?_⟩, ?_⟩, FA⟩
  · simpa [hd] using hb3
  · exact (HD.out.kept.fr FA (fun h => h.elim (fun h => hom _ h rfl) (fun h => hdm h.symm)) hdF2).mono (fun b hb _ => .inl hb)
  · have hod2 : ∀ b, (Value.slice A2 (s.opn.length + 1) c2).ownBlock = some b → ¬ b = d := fun b hb h => by
      have hdl := World.block_lt_of_cell? w _ h2
      rcases k3 b hb with h' | h'
      · exact hod b h' h
      · subst h; simp at hdl; omega
    simpa using own_kept o2 FS hod2
  · have hown : (Value.slice A2 (s.opn.length + 1) c2).ownBlock ≠ some w.heap.size := fun h => by
      rcases k2 _ h with h' | h'
      · have := (O1.out.lt _ h').2; omega
      · have := f1.size; have e1 : w.drew.heap.size = w.heap.size := rfl; have e2 := Array.getElem?_eq_some_iff.1 g1; simp at h'; have := e2.1; have e3 : w.drew.heap.size < w1.heap.size := e2.1; omega
    have hg2 : (w2.setCell ⟨d, 2, none⟩ (.slice A2 (s.opn.length + 1) c2)).heap[w.heap.size]? = some (.cells ((padB b).map bv).toArray 5 (0, 0)) := by
      have hdl := World.block_lt_of_cell? w _ h2
      have g2 : w1.heap[w.heap.size]? = some (.cells ((padB b).map bv).toArray 5 (0, 0)) := g1
      exact FS.blk (f2.blk (((Fr.refl C0 w1).alloc _).blk g2 (fun h => h)) (fun h => by have := (O1.out.lt _ h).2; omega)) (fun h => by subst h; simp at hdl)
    refine OpenCells.snoc (bytesAt_row.2 ?_) (padB_length hb) ((O2.out.fr FA hdF2).mono (fun b hb _ => .inl hb))
    have := Row.ofBlock (F := fun x => F x ∨ (w.heap.size ≤ x ∧ (Value.slice A2 (s.opn.length + 1) c2).ownBlock ≠ some x)) (n := 8192) (size := 1) hg2 (.inr ⟨Nat.le_refl _, hown⟩) (by unfold maxLen; omega) (by simp [padB_length hb])
    rw [padB_length hb]
    simpa using this
  · simp; omega
end
section
theorem flush_calls {F : Nat → Prop} {w : World} {d m : Nat} {ov : Value} {s : DSt} (h : DiskA F w d m ov s) (hd : s.down = false) (ha : s.after < 1) (hF : ∀ b, w.heap.size ≤ b → F b) (hm : ¬ F m) (hdF : ¬ F d) (hdm : d ≠ m) (hom : ∀ b, ov.ownBlock = some b → b ≠ m) (hod : ∀ b, ov.ownBlock = some b → b ≠ d) :
    Calls Tryz.prog 79 #[.pointer (some ⟨d, 0, none⟩)] w fun e w' => e = .returned (.int .i64 0) ∧ DiskA F w' d m (.slice none 0 0) s.flush ∧ Fr (fun b => b = m ∨ b = d) w w' := by
  have HS := Lib.hid (strikes0_calls h ha)
  have HD := Lib.hid h
  have h3 := blk_cell h.blk 3 rfl
  have h2 := blk_cell h.blk 2 rfl
  obtain ⟨xs, o1, o2⟩ := h.opn
  have HR := Lib.hid (Row.ofOwn o1 (F := fun b => b < w.heap.size ∧ b ≠ m ∧ b ≠ d) (fun b hb => ⟨(o1.lt b hb).2, hom b hb, hod b hb⟩))
  have HO := Lib.hid o2
  have HOM := Lib.hid hom
  have hs := h.small
  obtain ⟨A, c, rfl, hc1, hc2⟩ := HR.out.form
  clear h o1 o2 hom
  rw [hd] at h3
  go_enter Tryz.func79, Tryz.ntmps79
  go_wp2_with fail
  refine HS.out.mono ?_
  rintro e w1 ⟨rfl, rfl⟩
  go_wp2
  go_loopw [18] (fun i wr => ∃ n : Nat, n ≤ s.opn.length ∧ i = .int .i64 (n : Int) ∧ Hid (DiskA F wr d m (.slice A s.opn.length c) (layAll s (s.opn.take n))) ∧ Hid (Fr (fun b => b = m) w wr)) (fun i _ => s.opn.length - (intOf i).toNat)
  case atStart => exact ⟨0, Nat.zero_le _, by go_num, HD, Lib.hid (Fr.refl _ _)⟩
  case round =>
    obtain ⟨n, hn, rfl, HDn, HF⟩ := hrel
    by_cases hlt : n < s.opn.length
    · obtain ⟨q1, v, q2, q3, q4⟩ := HO.out.at_ n hlt
      obtain ⟨g, o, rfl, hg, hc⟩ := HR.out.cells q1
      have r1 := HF.out.cell (hc _ _ q1) hg.2.1
      have r2 : wr.cell? ⟨g, o + n * 2 + 1, none⟩ = some v := HF.out.cell (hc _ _ q2) hg.2.1
      have q3' : BytesAt F wr v s.opn[n].2 := q3.fr HF.out (fun b hb h => hm (h ▸ hb))
      obtain ⟨vA, vc, rfl, -⟩ := id q3
      have HL := Lib.hid (lay_calls (HDn.out.fr0 ((Fr.refl C0 wr).alloc (.cells #[.int .i64 (s.opn[n].1 : Int), .slice vA s.opn[n].2.length vc] 153))) (q3'.fr0 ((Fr.refl C0 wr).alloc _)) q4 (n := 8192) (Nat.le_refl _) (k := s.opn[n].1) (fun b hb => hF b (by have := HF.out.size; simp at hb; omega)) hm hdm HOM.out)
      clear q1 q2 q3 q4 hc HO HR q3'
      go_wp2_with fail
      refine HL.out.mono ?_
      rintro e w' ⟨rfl, D2, f2⟩
      go_wp2
      go_roundw
      case rel => exact ⟨n + 1, by omega, by go_num, Lib.hid (by rw [layAll_take hlt]; exact D2), Lib.hid ((HF.out.alloc _).trans f2 (fun _ _ h => h))⟩
      case measure => simp [intOf]; omega
    · have e1 : n = s.opn.length := by omega
      subst e1
      clear HO HR
      have z := blk_free 2 HDn.out.blk
      have z1 := blk_cell HDn.out.blk 2 rfl
      go_wp2
      go_ret
      have hb := blk_set (i := 2) HDn.out.blk (.slice none 0 0)
      rw [List.take_length] at HDn hb
      have FS : Fr (fun b => b = d) wr (wr.setCell ⟨d, 2, none⟩ (.slice none 0 0)) := (Fr.refl (fun b => b = d) wr).setCell (.inr rfl) _
      refine ⟨rfl, ⟨?_, HDn.out.kept.fr FS (fun h => hdm h.symm) (fun b hb h => hdF (h ▸ hb)), ⟨[], World.ownsRow_nil _ _ _ _, .nil⟩, by simp [DSt.flush]⟩, (HF.out.mono (fun _ _ h => .inl h)).trans FS (fun _ _ h => .inr h)⟩
      simpa [DSt.flush] using hb
end
end Go.Proofs.YtcmicdcikechkaaGreat
namespace Go.H
open Go.RowKit
section
def U32 (x : Int) : Prop := 0 ≤ x ∧ x < 4294967296
theorem bits32 (b : BinOp) (x y : Int) : U32 (bits b .u32 x y) := by
  unfold U32 bits
  simp only [IntKind.wrap_u32]
  omega
def crcStep (r : Int) : Int := if bits .and .u32 r 1 = 1 then bits .xor .u32 (r / 2) 2197175160 else r / 2
theorem crcStep_u {r : Int} (h : U32 r) : U32 (crcStep r) := by
  unfold crcStep
  split
  · exact bits32 _ _ _
  · obtain ⟨h1, h2⟩ := h; constructor <;> omega
def crcN (i : Nat) : Nat → Int
  | 0 => i
  | n + 1 => crcStep (crcN i n)
theorem crcN_u {i : Nat} (h : i < 256) : ∀ n, U32 (crcN i n)
  | 0 => ⟨by simp [crcN], by simp [crcN]; omega⟩
  | n + 1 => crcStep_u (crcN_u h n)
def tab : Nat → Nat → Int
  | 0, i => crcN i 8
  | k + 1, i => bits .xor .u32 (tab k i / 256) (crcN (tab k i % 256).toNat 8)
theorem tab_u {i : Nat} (h : i < 256) : ∀ k, U32 (tab k i)
  | 0 => crcN_u h 8
  | k + 1 => bits32 _ _ _
def tabRow (k : Nat) : List Value := (List.range 256).map fun i => .int .u32 (tab k i)
theorem tabRow_length (k : Nat) : (tabRow k).length = 256 := by rw [tabRow, List.length_map, List.length_range]
theorem tabRow_get {k i : Nat} (h : i < 256) : (tabRow k)[i]? = some (.int .u32 (tab k i)) := by
  rw [tabRow, List.getElem?_map, List.getElem?_range h]; rfl
theorem wraps_u32' (n : Int) (h₀ : 0 ≤ n) (h₁ : n < 2 ^ 32) : IntKind.u32.wrap n = n := by
  rw [IntKind.wrap_u32]
  have : (2 : Int) ^ 32 = 4294967296 := by decide
  omega
theorem and255 {x : Int} (h : U32 x) : bits .and .u32 x 255 = x % 256 := bits_mask .u32 32 (by decide) wraps_u32' 8 (by decide) x h.1 h.2
def crcByte (r : Int) (c : UInt8) : Int := bits .xor .u32 (r / 256) (tab 0 (bits .xor .u8 (r % 256) (c.toNat : Int)).toNat)
def crc4in (r : Int) (a b c d : UInt8) : Int := bits .xor .u32 r (bits .or .u32 (bits .or .u32 (bits .or .u32 (a.toNat : Int) ((b.toNat : Int) * 256)) ((c.toNat : Int) * 65536)) ((d.toNat : Int) * 16777216))
def crc4out (r : Int) : Int := bits .xor .u32 (bits .xor .u32 (bits .xor .u32 (tab 3 (r % 256).toNat) (tab 2 (r / 256 % 256).toNat)) (tab 1 (r / 65536 % 256).toNat)) (tab 0 (r / 16777216).toNat)
def crcAll (r : Int) : List UInt8 → Int
  | a :: b :: c :: d :: l => crcAll (crc4out (crc4in r a b c d)) l
  | a :: l => crcAll (crcByte r a) l
  | [] => r
def crc (l : List UInt8) : Int := bits .xor .u32 IntKind.u32.max (crcAll 4294967295 l)
theorem crc_u (l : List UInt8) : U32 (crc l) := bits32 _ _ _
theorem crcAll_one (x : Int) (a : UInt8) (l : List UInt8) (h : l.length ≤ 2) : crcAll x (a :: l) = crcAll (crcByte x a) l := by
  match l, h with
  | [], _ => rfl
  | [b], _ => rfl
  | [b, c], _ => rfl
theorem bits8 (b : BinOp) (x y : Int) : 0 ≤ bits b .u8 x y ∧ bits b .u8 x y < 256 := by
  unfold bits
  simp only [IntKind.wrap_u8]
  omega
end
end Go.H
namespace Go.Proofs.YtcmicdcikechkaaGreat
open Go.RowKit Go.H
set_option maxHeartbeats 1000000
set_option maxRecDepth 100000
section
theorem index_row {w : World} {n : Nat} {v : Value} {cs : List Value} (hn : n < 256) (h : cs[n]? = some v) (h1 : v.oneCell' = true) : (Instr.index 183 (.agg cs.toArray) (.int .i64 (n : Int))).run Tryz.prog w = .ok v w := by
  have e1 : (0 : Int) ≤ (n : Int) ∧ (n : Int) < ((256 : Nat) : Int) := by omega
  have e2 : (sizeOf 174).run Tryz.prog w = .ok 1 w := by kernel_rfl
  have e3 : (isAgg 174).run Tryz.prog w = .ok false w := by kernel_rfl
  simp [Instr.index, run_underlying Tryz.underlying183, asIntOf, go_sem, e1, e2, e3, h, Sem.run_bind]
  omega
end
end Go.Proofs.YtcmicdcikechkaaGreat
