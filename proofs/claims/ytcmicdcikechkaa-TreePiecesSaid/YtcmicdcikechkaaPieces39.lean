import Derived.Test.YtcmicdcikechkaaPieces20
import Derived.Test.YtcmicdcikechkaaPieces04
import Derived.Test.YtcmicdcikechkaaPieces03
import Derived.Test.YtcmicdcikechkaaPieces29
set_option linter.all false
section
namespace Go.Proofs.Ytcmicdcikechkaa
open Go.RowKit Go.H
set_option maxHeartbeats 2000000
set_option maxRecDepth 100000
def PairsAt (F : Nat → Prop) (w : World) (v : Value) (L : List KV) : Prop := ∃ xs, Row F w v L.length 3 xs ∧ PairCells F w xs L
theorem PairsAt.fr {F C : Nat → Prop} {w w' : World} {v : Value} {L : List KV} (h : PairsAt F w v L) (hf : Fr C w w') (hd : ∀ b, F b → ¬ C b) : PairsAt F w' v L := by
  obtain ⟨xs, a, b⟩ := h
  exact ⟨xs, a.fr hf hd, b.fr hf hd⟩
theorem PairsAt.fr0 {F : Nat → Prop} {w w' : World} {v : Value} {L : List KV} (h : PairsAt F w v L) (hf : Fr C0 w w') : PairsAt F w' v L := h.fr hf (fun _ _ k => k)
theorem PairsAt.mono {F F' : Nat → Prop} {w : World} {v : Value} {L : List KV} (h : PairsAt F w v L) (hF : ∀ b, F b → b < w.heap.size → F' b) : PairsAt F' w v L := by
  obtain ⟨xs, a, b⟩ := h
  exact ⟨xs, a.mono hF, b.mono hF⟩
theorem PairsAt.form {F : Nat → Prop} {w : World} {v : Value} {L : List KV} (h : PairsAt F w v L) : ∃ A c, v = .slice A L.length c ∧ L.length ≤ c ∧ c ≤ maxLen := by
  obtain ⟨xs, a, b⟩ := h
  exact a.form
theorem PairsAt.at_ {F : Nat → Prop} {w : World} {A : Option Addr} {cp : Nat} {L : List KV} (h : PairsAt F w (.slice A L.length cp) L) (i : Nat) (hi : i < L.length) : ∃ g o kv vv, A = some ⟨g, o, none⟩ ∧ w.cell? ⟨g, o + i * 3, none⟩ = some (.int .i64 0) ∧ w.cell? ⟨g, o + i * 3 + 1, none⟩ = some kv ∧ w.cell? ⟨g, o + i * 3 + 2, none⟩ = some vv ∧ BytesAt F w kv L[i].1 ∧ BytesAt F w vv L[i].2 := by
  obtain ⟨xs, a, b⟩ := h
  obtain ⟨kv, vv, h0, h1, h2, h3, h4⟩ := b.at_ i hi
  obtain ⟨g, o, rfl, _, hc⟩ := a.cells h0
  exact ⟨g, o, kv, vv, rfl, hc _ _ h0, by rw [show o + i * 3 + 1 = o + (i * 3 + 1) by omega]; exact hc _ _ h1, by rw [show o + i * 3 + 2 = o + (i * 3 + 2) by omega]; exact hc _ _ h2, h3, h4⟩
theorem OutAt.pairs {pT B : Nat} {c : Nat → Nat} {q : Nat} {w : World} {v : Value} {L : List KV} {F : Nat → Prop} (h : OutAt pT B c q w v L) (hF : ∀ b, B ≤ b → (c b = 0 ∨ c b = q) → F b) : PairsAt F w v L := by
  obtain ⟨xs, a, b, e⟩ := h
  exact ⟨xs, Row.ofOwn a (fun b hb => hF b (e b hb).2 (.inr (e b hb).1)), b.mono fun b hb _ => hF b hb.2 (.inl hb.1)⟩
theorem copied2_calls {F : Nat → Prop} {w : World} {v : Value} {l : List UInt8} (h : BytesAt F w v l) (hn : l.length ≤ 100000) :
    Calls Try.prog 11 #[v] w fun e w' => ∃ v', e = .returned v' ∧ Fr C0 w w' ∧ w'.ownsRow w.heap.size 5 1 v' l.length (l.map bv) := by
  have HR := Lib.hid (h.row.mono (F' := fun b => b < w.heap.size) (fun b _ h => h))
  obtain ⟨A, c, rfl, h1, h2⟩ := h.form
  clear h
  go_enter Try.func11, Try.ntmps11
  go_wp2_with (at_builtin; go_must (refine wpl_app sl_u8 rfl _ _ rfl (v := .slice none 0 0) (xv := .slice A l.length c) rfl rfl (B := w.heap.size) (World.ownsRow_nil _ _ _ _) HR.out (oneCell_bv l) (by unfold maxLen; omega) (by omega) (by omega) ?_); intro v2 w2 o2 f2 k2 nil2)
  go_ret
  exact ⟨v2, rfl, f2.mono (fun b _ h => by simp [Value.ownBlock] at h), by simpa using o2⟩
theorem str2 {F G : Nat → Prop} {w : World} {u v : Value} {a b : List UInt8} (ha : BytesAt F w u a) (hb : BytesAt G w v b) : ∃ x y : ByteArray, Hid (∀ w_, Fr C0 w w_ → (convert 23 9 u).run Try.prog w_ = .ok (.string x) w_) ∧ Hid (∀ w_, Fr C0 w w_ → (convert 23 9 v).run Try.prog w_ = .ok (.string y) w_) ∧ Hid ((x.toList == y.toList) = decide (a = b)) :=
  ⟨_, _, Lib.hid fun w_ hf => bytes_str (ha.fr0 hf), Lib.hid fun w_ hf => bytes_str (hb.fr0 hf), Lib.hid (by rw [ByteArray.toList_eq, ByteArray.toList_eq]; simp [beq_dec])⟩
theorem same_calls {F G : Nat → Prop} {w : World} {u v : Value} {a b : List KV} (ha : PairsAt F w u a) (hb : PairsAt G w v b) :
    Calls Try.prog 10 #[u, v] w fun e w' => e = .returned (.bool (decide (a = b))) ∧ Fr C0 w w' := by
  have HA := Lib.hid ha
  have HB := Lib.hid hb
  obtain ⟨A, ca, rfl, ha1, ha2⟩ := ha.form
  obtain ⟨B, cb, rfl, hb1, hb2⟩ := hb.form
  clear ha hb
  unfold maxLen at ha2 hb2
  by_cases hl : a.length = b.length
  · have HL := Lib.hid hl
    have hl1 : ((a.length : Int) != (b.length : Int)) = false := by simp [bne, beq_dec, hl]
    clear hl
    go_enter Try.func10, Try.ntmps10
    go_wp2
    go_loopw [5] (fun i wr => ∃ k : Nat, k ≤ a.length ∧ i = .int .i64 (k : Int) ∧ Fr C0 w wr ∧ Hid (a.take k = b.take k)) (fun i _ => a.length - (intOf i).toNat)
    case atStart => exact ⟨0, Nat.zero_le _, rfl, Fr.refl _ _, Lib.hid rfl⟩
    case round =>
      obtain ⟨k, hk, rfl, hf, hab⟩ := hrel
      have HF := Lib.hid hf
      clear hf
      by_cases hlt : k < a.length
      · have hltb : k < b.length := by have := HL.out; omega
        obtain ⟨ga, oa, kva, vva, rfl, a0, a1, a2, a3, a4⟩ := (HA.out.fr0 HF.out).at_ k hlt
        obtain ⟨gb, ob, kvb, vvb, rfl, b0, b1, b2, b3, b4⟩ := (HB.out.fr0 HF.out).at_ k hltb
        obtain ⟨x1, y1, sa3, sb3, E1⟩ := str2 a3 b3
        obtain ⟨x2, y2, sa4, sb4, E2⟩ := str2 a4 b4
        obtain ⟨_, _, rfl, -⟩ := a3.form
        obtain ⟨_, _, rfl, -⟩ := a4.form
        obtain ⟨_, _, rfl, -⟩ := b3.form
        obtain ⟨_, _, rfl, -⟩ := b4.form
        clear a3 a4 b3 b4
        by_cases hk1 : a[k].1 = b[k].1
        · by_cases hk2 : a[k].2 = b[k].2
          · skip
            go_wp2_with fail
            have e1 := E1.out; rw [decide_eq_true hk1] at e1
            have HK1 := Lib.hid hk1
            clear hk1
            have e2 := E2.out; rw [decide_eq_true hk2] at e2
            have HK2 := Lib.hid hk2
            clear hk2
            refine wp_region_L (Fr C0 wr) [] (by kernel_rfl) ?_
            have hSw0 : (Fr C0 wr) _ := (Fr.refl C0 wr).drew
            refine wpAnyL_take 0 (oi := ⟨(some 17), (.move (.tmp 0)), 30, "ref.go:65", #[], none⟩) (v := ?v_1) rfl (by kernel_rfl) (fun _ _ _ h => h) hSw0 (yieldsIf_of rfl ?hy_1) ?hrest_1
            case hy_1 => (intro w_ hS_; (first | (go_simp; done) | (go_simp; with_reducible rfl)))
            try simp only [Act.put, List.setIfInBounds_toArray, List.set_cons_zero, List.set_cons_succ]
            refine wpAnyL_take 1 (oi := ⟨(some 18), (.move (.tmp 5)), 3, "ref.go:65", #[], none⟩) (v := ?v_2) rfl (by kernel_rfl) (fun _ _ _ h => h) hSw0 (yieldsIf_of rfl ?hy_2) ?hrest_2
            case hy_2 => (intro w_ hS_; (first | (go_simp; done) | (go_simp; with_reducible rfl)))
            try simp only [Act.put, List.setIfInBounds_toArray, List.set_cons_zero, List.set_cons_succ]
            refine wpAnyL_take 2 (oi := ⟨(some 19), (.indexAddr 30 (.tmp 17) (.tmp 18)), 0, "ref.go:65", #[⟨0, .data⟩, ⟨1, .data⟩], none⟩) (v := ?v_3) rfl (by kernel_rfl) (fun _ _ _ h => h) hSw0 (yieldsIf_of rfl ?hy_3) ?hrest_3
            case hy_3 => (intro w_ hS_; (first | (go_simp; done) | (go_simp; with_reducible rfl)))
            try simp only [Act.put, List.setIfInBounds_toArray, List.set_cons_zero, List.set_cons_succ]
            refine wpAnyL_take 3 (oi := ⟨(some 20), (.fieldAddr 36 (.tmp 19) 0), 0, "ref.go:65", #[⟨2, .data⟩], none⟩) (v := ?v_4) rfl (by kernel_rfl) (fun _ _ _ h => h) hSw0 (yieldsIf_of rfl ?hy_4) ?hrest_4
            case hy_4 => (intro w_ hS_; (first | (go_simp; done) | (go_simp; with_reducible rfl)))
            try simp only [Act.put, List.setIfInBounds_toArray, List.set_cons_zero, List.set_cons_succ]
            refine wpAnyL_take 4 (oi := ⟨(some 21), (.load 3 (.tmp 20)), 3, "ref.go:65", #[⟨3, .data⟩], none⟩) (v := ?v_5) rfl (by kernel_rfl) (fun _ _ _ h => h) hSw0 (yieldsIf_of rfl ?hy_5) ?hrest_5
            case hy_5 => (intro w_ hS_; have c0 := hS_.cell0 a0; have c1 := hS_.cell0 a1; have c2 := hS_.cell0 a2; have d0 := hS_.cell0 b0; have d1 := hS_.cell0 b1; have d2 := hS_.cell0 b2; (first | (go_simp; done) | (go_simp; with_reducible rfl)))
            try simp only [Act.put, List.setIfInBounds_toArray, List.set_cons_zero, List.set_cons_succ]
            refine wpAnyL_take 5 (oi := ⟨(some 22), (.move (.tmp 1)), 30, "ref.go:65", #[], none⟩) (v := ?v_6) rfl (by kernel_rfl) (fun _ _ _ h => h) hSw0 (yieldsIf_of rfl ?hy_6) ?hrest_6
            case hy_6 => (intro w_ hS_; (first | (go_simp; done) | (go_simp; with_reducible rfl)))
            try simp only [Act.put, List.setIfInBounds_toArray, List.set_cons_zero, List.set_cons_succ]
            refine wpAnyL_take 6 (oi := ⟨(some 23), (.move (.tmp 5)), 3, "ref.go:65", #[], none⟩) (v := ?v_7) rfl (by kernel_rfl) (fun _ _ _ h => h) hSw0 (yieldsIf_of rfl ?hy_7) ?hrest_7
            case hy_7 => (intro w_ hS_; (first | (go_simp; done) | (go_simp; with_reducible rfl)))
            try simp only [Act.put, List.setIfInBounds_toArray, List.set_cons_zero, List.set_cons_succ]
            refine wpAnyL_take 7 (oi := ⟨(some 24), (.indexAddr 30 (.tmp 22) (.tmp 23)), 0, "ref.go:65", #[⟨5, .data⟩, ⟨6, .data⟩], none⟩) (v := ?v_8) rfl (by kernel_rfl) (fun _ _ _ h => h) hSw0 (yieldsIf_of rfl ?hy_8) ?hrest_8
            case hy_8 => (intro w_ hS_; (first | (go_simp; done) | (go_simp; with_reducible rfl)))
            try simp only [Act.put, List.setIfInBounds_toArray, List.set_cons_zero, List.set_cons_succ]
            refine wpAnyL_take 8 (oi := ⟨(some 25), (.fieldAddr 36 (.tmp 24) 0), 0, "ref.go:65", #[⟨7, .data⟩], none⟩) (v := ?v_9) rfl (by kernel_rfl) (fun _ _ _ h => h) hSw0 (yieldsIf_of rfl ?hy_9) ?hrest_9
            case hy_9 => (intro w_ hS_; (first | (go_simp; done) | (go_simp; with_reducible rfl)))
            try simp only [Act.put, List.setIfInBounds_toArray, List.set_cons_zero, List.set_cons_succ]
            refine wpAnyL_take 9 (oi := ⟨(some 26), (.load 3 (.tmp 25)), 3, "ref.go:65", #[⟨8, .data⟩], none⟩) (v := ?v_10) rfl (by kernel_rfl) (fun _ _ _ h => h) hSw0 (yieldsIf_of rfl ?hy_10) ?hrest_10
            case hy_10 => (intro w_ hS_; have c0 := hS_.cell0 a0; have c1 := hS_.cell0 a1; have c2 := hS_.cell0 a2; have d0 := hS_.cell0 b0; have d1 := hS_.cell0 b1; have d2 := hS_.cell0 b2; (first | (go_simp; done) | (go_simp; with_reducible rfl)))
            try simp only [Act.put, List.setIfInBounds_toArray, List.set_cons_zero, List.set_cons_succ]
            refine wpAnyL_take 10 (oi := ⟨(some 27), (.binOp .neq 3 (.tmp 21) (.tmp 26) 3), 4, "ref.go:65", #[⟨4, .data⟩, ⟨9, .data⟩], none⟩) (v := ?v_11) rfl (by kernel_rfl) (fun _ _ _ h => h) hSw0 (yieldsIf_of rfl ?hy_11) ?hrest_11
            case hy_11 => (intro w_ hS_; (first | (go_simp; done) | (go_simp; with_reducible rfl)))
            try simp only [Act.put, List.setIfInBounds_toArray, List.set_cons_zero, List.set_cons_succ]
            refine wpAnyL_take 11 (oi := ⟨(some 28), (.move (.tmp 27)), 4, "ref.go:65", #[⟨10, .data⟩], none⟩) (v := ?v_12) rfl (by kernel_rfl) (fun _ _ _ h => h) hSw0 (yieldsIf_of rfl ?hy_12) ?hrest_12
            case hy_12 => (intro w_ hS_; (first | (go_simp; done) | (go_simp; with_reducible rfl)))
            try simp only [Act.put, List.setIfInBounds_toArray, List.set_cons_zero, List.set_cons_succ]
            refine wpAnyL_take 12 (oi := ⟨(some 29), (.move (.tmp 0)), 30, "ref.go:65", #[⟨11, .guard⟩], (some (11, false))⟩) (v := ?v_13) rfl (by kernel_rfl) (fun _ _ _ h => h) hSw0 (yieldsIf_of rfl ?hy_13) ?hrest_13
            case hy_13 => (intro w_ hS_; (first | (go_simp; done) | (go_simp; with_reducible rfl)))
            try simp only [Act.put, List.setIfInBounds_toArray, List.set_cons_zero, List.set_cons_succ]
            refine wpAnyL_take 13 (oi := ⟨(some 30), (.move (.tmp 5)), 3, "ref.go:65", #[⟨11, .guard⟩], (some (11, false))⟩) (v := ?v_14) rfl (by kernel_rfl) (fun _ _ _ h => h) hSw0 (yieldsIf_of rfl ?hy_14) ?hrest_14
            case hy_14 => (intro w_ hS_; (first | (go_simp; done) | (go_simp; with_reducible rfl)))
            try simp only [Act.put, List.setIfInBounds_toArray, List.set_cons_zero, List.set_cons_succ]
            refine wpAnyL_take 14 (oi := ⟨(some 31), (.indexAddr 30 (.tmp 29) (.tmp 30)), 0, "ref.go:65", #[⟨12, .data⟩, ⟨13, .data⟩, ⟨11, .guard⟩], (some (11, false))⟩) (v := ?v_15) rfl (by kernel_rfl) (fun _ _ _ h => h) hSw0 (yieldsIf_of rfl ?hy_15) ?hrest_15
            case hy_15 => (intro w_ hS_; (first | (go_simp; done) | (go_simp; with_reducible rfl)))
            try simp only [Act.put, List.setIfInBounds_toArray, List.set_cons_zero, List.set_cons_succ]
            refine wpAnyL_take 15 (oi := ⟨(some 32), (.fieldAddr 36 (.tmp 31) 1), 0, "ref.go:65", #[⟨14, .data⟩, ⟨11, .guard⟩], (some (11, false))⟩) (v := ?v_16) rfl (by kernel_rfl) (fun _ _ _ h => h) hSw0 (yieldsIf_of rfl ?hy_16) ?hrest_16
            case hy_16 => (intro w_ hS_; (first | (go_simp; done) | (go_simp; with_reducible rfl)))
            try simp only [Act.put, List.setIfInBounds_toArray, List.set_cons_zero, List.set_cons_succ]
            refine wpAnyL_take 16 (oi := ⟨(some 33), (.load 23 (.tmp 32)), 23, "ref.go:65", #[⟨15, .data⟩, ⟨11, .guard⟩], (some (11, false))⟩) (v := ?v_17) rfl (by kernel_rfl) (fun _ _ _ h => h) hSw0 (yieldsIf_of rfl ?hy_17) ?hrest_17
            case hy_17 => (intro w_ hS_; have c0 := hS_.cell0 a0; have c1 := hS_.cell0 a1; have c2 := hS_.cell0 a2; have d0 := hS_.cell0 b0; have d1 := hS_.cell0 b1; have d2 := hS_.cell0 b2; (first | (go_simp; done) | (go_simp; with_reducible rfl)))
            try simp only [Act.put, List.setIfInBounds_toArray, List.set_cons_zero, List.set_cons_succ]
            refine wpAnyL_take 17 (oi := ⟨(some 34), (.convert 23 9 (.tmp 33)), 9, "ref.go:65", #[⟨16, .data⟩, ⟨11, .guard⟩], (some (11, false))⟩) (v := ?v_18) rfl (by kernel_rfl) (fun _ _ _ h => h) hSw0 (yieldsIf_of rfl ?hy_18) ?hrest_18
            case hy_18 => (intro w_ hS_; have k3 := sa3.out _ hS_; have k4 := sa4.out _ hS_; have l3 := sb3.out _ hS_; have l4 := sb4.out _ hS_; (first | (go_simp; done) | (go_simp; with_reducible rfl)))
            try simp only [Act.put, List.setIfInBounds_toArray, List.set_cons_zero, List.set_cons_succ]
            refine wpAnyL_take 18 (oi := ⟨(some 35), (.move (.tmp 1)), 30, "ref.go:65", #[⟨11, .guard⟩], (some (11, false))⟩) (v := ?v_19) rfl (by kernel_rfl) (fun _ _ _ h => h) hSw0 (yieldsIf_of rfl ?hy_19) ?hrest_19
            case hy_19 => (intro w_ hS_; (first | (go_simp; done) | (go_simp; with_reducible rfl)))
            try simp only [Act.put, List.setIfInBounds_toArray, List.set_cons_zero, List.set_cons_succ]
            refine wpAnyL_take 19 (oi := ⟨(some 36), (.move (.tmp 5)), 3, "ref.go:65", #[⟨11, .guard⟩], (some (11, false))⟩) (v := ?v_20) rfl (by kernel_rfl) (fun _ _ _ h => h) hSw0 (yieldsIf_of rfl ?hy_20) ?hrest_20
            case hy_20 => (intro w_ hS_; (first | (go_simp; done) | (go_simp; with_reducible rfl)))
            try simp only [Act.put, List.setIfInBounds_toArray, List.set_cons_zero, List.set_cons_succ]
            refine wpAnyL_take 20 (oi := ⟨(some 37), (.indexAddr 30 (.tmp 35) (.tmp 36)), 0, "ref.go:65", #[⟨18, .data⟩, ⟨19, .data⟩, ⟨11, .guard⟩], (some (11, false))⟩) (v := ?v_21) rfl (by kernel_rfl) (fun _ _ _ h => h) hSw0 (yieldsIf_of rfl ?hy_21) ?hrest_21
            case hy_21 => (intro w_ hS_; (first | (go_simp; done) | (go_simp; with_reducible rfl)))
            try simp only [Act.put, List.setIfInBounds_toArray, List.set_cons_zero, List.set_cons_succ]
            refine wpAnyL_take 21 (oi := ⟨(some 38), (.fieldAddr 36 (.tmp 37) 1), 0, "ref.go:65", #[⟨20, .data⟩, ⟨11, .guard⟩], (some (11, false))⟩) (v := ?v_22) rfl (by kernel_rfl) (fun _ _ _ h => h) hSw0 (yieldsIf_of rfl ?hy_22) ?hrest_22
            case hy_22 => (intro w_ hS_; (first | (go_simp; done) | (go_simp; with_reducible rfl)))
            try simp only [Act.put, List.setIfInBounds_toArray, List.set_cons_zero, List.set_cons_succ]
            refine wpAnyL_take 22 (oi := ⟨(some 39), (.load 23 (.tmp 38)), 23, "ref.go:65", #[⟨21, .data⟩, ⟨11, .guard⟩], (some (11, false))⟩) (v := ?v_23) rfl (by kernel_rfl) (fun _ _ _ h => h) hSw0 (yieldsIf_of rfl ?hy_23) ?hrest_23
            case hy_23 => (intro w_ hS_; have c0 := hS_.cell0 a0; have c1 := hS_.cell0 a1; have c2 := hS_.cell0 a2; have d0 := hS_.cell0 b0; have d1 := hS_.cell0 b1; have d2 := hS_.cell0 b2; (first | (go_simp; done) | (go_simp; with_reducible rfl)))
            try simp only [Act.put, List.setIfInBounds_toArray, List.set_cons_zero, List.set_cons_succ]
            refine wpAnyL_take 23 (oi := ⟨(some 40), (.convert 23 9 (.tmp 39)), 9, "ref.go:65", #[⟨22, .data⟩, ⟨11, .guard⟩], (some (11, false))⟩) (v := ?v_24) rfl (by kernel_rfl) (fun _ _ _ h => h) hSw0 (yieldsIf_of rfl ?hy_24) ?hrest_24
            case hy_24 => (intro w_ hS_; have k3 := sa3.out _ hS_; have k4 := sa4.out _ hS_; have l3 := sb3.out _ hS_; have l4 := sb4.out _ hS_; (first | (go_simp; done) | (go_simp; with_reducible rfl)))
            try simp only [Act.put, List.setIfInBounds_toArray, List.set_cons_zero, List.set_cons_succ]
            refine wpAnyL_take 24 (oi := ⟨(some 41), (.binOp .neq 9 (.tmp 34) (.tmp 40) 9), 4, "ref.go:65", #[⟨17, .data⟩, ⟨23, .data⟩, ⟨11, .guard⟩], (some (11, false))⟩) (v := ?v_25) rfl (by kernel_rfl) (fun _ _ _ h => h) hSw0 (yieldsIf_of rfl ?hy_25) ?hrest_25
            case hy_25 => (intro w_ hS_; (first | (go_simp; done) | (go_simp; with_reducible rfl)))
            try simp only [Act.put, List.setIfInBounds_toArray, List.set_cons_zero, List.set_cons_succ]
            refine wpAnyL_take 25 (oi := ⟨(some 42), (.pick (.tmp 28) (.const (.bool true)) (.tmp 41)), 4, "ref.go:65", #[⟨11, .data⟩, ⟨24, .data⟩], none⟩) (v := ?v_26) rfl (by kernel_rfl) (fun _ _ _ h => h) hSw0 (yieldsIf_of rfl ?hy_26) ?hrest_26
            case hy_26 => (intro w_ hS_; (first | (go_simp; done) | (go_simp; with_reducible rfl)))
            try simp only [Act.put, List.setIfInBounds_toArray, List.set_cons_zero, List.set_cons_succ]
            refine wpAnyL_take 26 (oi := ⟨(some 43), (.move (.tmp 42)), 4, "ref.go:65", #[⟨25, .data⟩, ⟨11, .chain⟩], none⟩) (v := ?v_27) rfl (by kernel_rfl) (fun _ _ _ h => h) hSw0 (yieldsIf_of rfl ?hy_27) ?hrest_27
            case hy_27 => (intro w_ hS_; (first | (go_simp; done) | (go_simp; with_reducible rfl)))
            try simp only [Act.put, List.setIfInBounds_toArray, List.set_cons_zero, List.set_cons_succ]
            refine wpAnyL_take 27 (oi := ⟨(some 44), (.move (.tmp 0)), 30, "ref.go:65", #[⟨26, .guard⟩], (some (26, false))⟩) (v := ?v_28) rfl (by kernel_rfl) (fun _ _ _ h => h) hSw0 (yieldsIf_of rfl ?hy_28) ?hrest_28
            case hy_28 => (intro w_ hS_; (first | (go_simp; done) | (go_simp; with_reducible rfl)))
            try simp only [Act.put, List.setIfInBounds_toArray, List.set_cons_zero, List.set_cons_succ]
            refine wpAnyL_take 28 (oi := ⟨(some 45), (.move (.tmp 5)), 3, "ref.go:65", #[⟨26, .guard⟩], (some (26, false))⟩) (v := ?v_29) rfl (by kernel_rfl) (fun _ _ _ h => h) hSw0 (yieldsIf_of rfl ?hy_29) ?hrest_29
            case hy_29 => (intro w_ hS_; (first | (go_simp; done) | (go_simp; with_reducible rfl)))
            try simp only [Act.put, List.setIfInBounds_toArray, List.set_cons_zero, List.set_cons_succ]
            refine wpAnyL_take 29 (oi := ⟨(some 46), (.indexAddr 30 (.tmp 44) (.tmp 45)), 0, "ref.go:65", #[⟨27, .data⟩, ⟨28, .data⟩, ⟨26, .guard⟩], (some (26, false))⟩) (v := ?v_30) rfl (by kernel_rfl) (fun _ _ _ h => h) hSw0 (yieldsIf_of rfl ?hy_30) ?hrest_30
            case hy_30 => (intro w_ hS_; (first | (go_simp; done) | (go_simp; with_reducible rfl)))
            try simp only [Act.put, List.setIfInBounds_toArray, List.set_cons_zero, List.set_cons_succ]
            refine wpAnyL_take 30 (oi := ⟨(some 47), (.fieldAddr 36 (.tmp 46) 2), 0, "ref.go:65", #[⟨29, .data⟩, ⟨26, .guard⟩], (some (26, false))⟩) (v := ?v_31) rfl (by kernel_rfl) (fun _ _ _ h => h) hSw0 (yieldsIf_of rfl ?hy_31) ?hrest_31
            case hy_31 => (intro w_ hS_; (first | (go_simp; done) | (go_simp; with_reducible rfl)))
            try simp only [Act.put, List.setIfInBounds_toArray, List.set_cons_zero, List.set_cons_succ]
            refine wpAnyL_take 31 (oi := ⟨(some 48), (.load 23 (.tmp 47)), 23, "ref.go:65", #[⟨30, .data⟩, ⟨26, .guard⟩], (some (26, false))⟩) (v := ?v_32) rfl (by kernel_rfl) (fun _ _ _ h => h) hSw0 (yieldsIf_of rfl ?hy_32) ?hrest_32
            case hy_32 => (intro w_ hS_; have c0 := hS_.cell0 a0; have c1 := hS_.cell0 a1; have c2 := hS_.cell0 a2; have d0 := hS_.cell0 b0; have d1 := hS_.cell0 b1; have d2 := hS_.cell0 b2; (first | (go_simp; done) | (go_simp; with_reducible rfl)))
            try simp only [Act.put, List.setIfInBounds_toArray, List.set_cons_zero, List.set_cons_succ]
            refine wpAnyL_take 32 (oi := ⟨(some 49), (.convert 23 9 (.tmp 48)), 9, "ref.go:65", #[⟨31, .data⟩, ⟨26, .guard⟩], (some (26, false))⟩) (v := ?v_33) rfl (by kernel_rfl) (fun _ _ _ h => h) hSw0 (yieldsIf_of rfl ?hy_33) ?hrest_33
            case hy_33 => (intro w_ hS_; have k3 := sa3.out _ hS_; have k4 := sa4.out _ hS_; have l3 := sb3.out _ hS_; have l4 := sb4.out _ hS_; (first | (go_simp; done) | (go_simp; with_reducible rfl)))
            try simp only [Act.put, List.setIfInBounds_toArray, List.set_cons_zero, List.set_cons_succ]
            refine wpAnyL_take 33 (oi := ⟨(some 50), (.move (.tmp 1)), 30, "ref.go:65", #[⟨26, .guard⟩], (some (26, false))⟩) (v := ?v_34) rfl (by kernel_rfl) (fun _ _ _ h => h) hSw0 (yieldsIf_of rfl ?hy_34) ?hrest_34
            case hy_34 => (intro w_ hS_; (first | (go_simp; done) | (go_simp; with_reducible rfl)))
            try simp only [Act.put, List.setIfInBounds_toArray, List.set_cons_zero, List.set_cons_succ]
            refine wpAnyL_take 34 (oi := ⟨(some 51), (.move (.tmp 5)), 3, "ref.go:65", #[⟨26, .guard⟩], (some (26, false))⟩) (v := ?v_35) rfl (by kernel_rfl) (fun _ _ _ h => h) hSw0 (yieldsIf_of rfl ?hy_35) ?hrest_35
            case hy_35 => (intro w_ hS_; (first | (go_simp; done) | (go_simp; with_reducible rfl)))
            try simp only [Act.put, List.setIfInBounds_toArray, List.set_cons_zero, List.set_cons_succ]
            refine wpAnyL_take 35 (oi := ⟨(some 52), (.indexAddr 30 (.tmp 50) (.tmp 51)), 0, "ref.go:65", #[⟨33, .data⟩, ⟨34, .data⟩, ⟨26, .guard⟩], (some (26, false))⟩) (v := ?v_36) rfl (by kernel_rfl) (fun _ _ _ h => h) hSw0 (yieldsIf_of rfl ?hy_36) ?hrest_36
            case hy_36 => (intro w_ hS_; (first | (go_simp; done) | (go_simp; with_reducible rfl)))
            try simp only [Act.put, List.setIfInBounds_toArray, List.set_cons_zero, List.set_cons_succ]
            refine wpAnyL_take 36 (oi := ⟨(some 53), (.fieldAddr 36 (.tmp 52) 2), 0, "ref.go:65", #[⟨35, .data⟩, ⟨26, .guard⟩], (some (26, false))⟩) (v := ?v_37) rfl (by kernel_rfl) (fun _ _ _ h => h) hSw0 (yieldsIf_of rfl ?hy_37) ?hrest_37
            case hy_37 => (intro w_ hS_; (first | (go_simp; done) | (go_simp; with_reducible rfl)))
            try simp only [Act.put, List.setIfInBounds_toArray, List.set_cons_zero, List.set_cons_succ]
            refine wpAnyL_take 37 (oi := ⟨(some 54), (.load 23 (.tmp 53)), 23, "ref.go:65", #[⟨36, .data⟩, ⟨26, .guard⟩], (some (26, false))⟩) (v := ?v_38) rfl (by kernel_rfl) (fun _ _ _ h => h) hSw0 (yieldsIf_of rfl ?hy_38) ?hrest_38
            case hy_38 => (intro w_ hS_; have c0 := hS_.cell0 a0; have c1 := hS_.cell0 a1; have c2 := hS_.cell0 a2; have d0 := hS_.cell0 b0; have d1 := hS_.cell0 b1; have d2 := hS_.cell0 b2; (first | (go_simp; done) | (go_simp; with_reducible rfl)))
            try simp only [Act.put, List.setIfInBounds_toArray, List.set_cons_zero, List.set_cons_succ]
            refine wpAnyL_take 38 (oi := ⟨(some 55), (.convert 23 9 (.tmp 54)), 9, "ref.go:65", #[⟨37, .data⟩, ⟨26, .guard⟩], (some (26, false))⟩) (v := ?v_39) rfl (by kernel_rfl) (fun _ _ _ h => h) hSw0 (yieldsIf_of rfl ?hy_39) ?hrest_39
            case hy_39 => (intro w_ hS_; have k3 := sa3.out _ hS_; have k4 := sa4.out _ hS_; have l3 := sb3.out _ hS_; have l4 := sb4.out _ hS_; (first | (go_simp; done) | (go_simp; with_reducible rfl)))
            try simp only [Act.put, List.setIfInBounds_toArray, List.set_cons_zero, List.set_cons_succ]
            refine wpAnyL_take 39 (oi := ⟨(some 56), (.binOp .neq 9 (.tmp 49) (.tmp 55) 9), 4, "ref.go:65", #[⟨32, .data⟩, ⟨38, .data⟩, ⟨26, .guard⟩], (some (26, false))⟩) (v := ?v_40) rfl (by kernel_rfl) (fun _ _ _ h => h) hSw0 (yieldsIf_of rfl ?hy_40) ?hrest_40
            case hy_40 => (intro w_ hS_; (first | (go_simp; done) | (go_simp; with_reducible rfl)))
            try simp only [Act.put, List.setIfInBounds_toArray, List.set_cons_zero, List.set_cons_succ]
            refine wpAnyL_take 40 (oi := ⟨(some 57), (.pick (.tmp 43) (.const (.bool true)) (.tmp 56)), 4, "ref.go:65", #[⟨26, .data⟩, ⟨39, .data⟩], none⟩) (v := ?v_41) rfl (by kernel_rfl) (fun _ _ _ h => h) hSw0 (yieldsIf_of rfl ?hy_41) ?hrest_41
            case hy_41 => (intro w_ hS_; (first | (go_simp; done) | (go_simp; with_reducible rfl)))
            try simp only [Act.put, List.setIfInBounds_toArray, List.set_cons_zero, List.set_cons_succ]
            refine wpAnyL_done (by kernel_rfl) ?_ _
            go_wp2
            go_roundw
            case rel =>
              refine ⟨k + 1, by omega, by go_num, HF.out.drew, Lib.hid ?_⟩
              rw [List.take_succ_eq_append_getElem hlt, List.take_succ_eq_append_getElem hltb, hab.out, show a[k] = b[k] from Prod.ext HK1.out HK2.out]
            case measure => simp [intOf]; omega
          · skip
            go_wp2_with fail
            have e1 := E1.out; rw [decide_eq_true hk1] at e1
            have HK1 := Lib.hid hk1
            clear hk1
            have e2 := E2.out; rw [decide_eq_false hk2] at e2
            have HK2 := Lib.hid hk2
            clear hk2
            refine wp_region_L (Fr C0 wr) [] (by kernel_rfl) ?_
            have hSw0 : (Fr C0 wr) _ := (Fr.refl C0 wr).drew
            refine wpAnyL_take 0 (oi := ⟨(some 17), (.move (.tmp 0)), 30, "ref.go:65", #[], none⟩) (v := ?v_42) rfl (by kernel_rfl) (fun _ _ _ h => h) hSw0 (yieldsIf_of rfl ?hy_42) ?hrest_42
            case hy_42 => (intro w_ hS_; (first | (go_simp; done) | (go_simp; with_reducible rfl)))
            try simp only [Act.put, List.setIfInBounds_toArray, List.set_cons_zero, List.set_cons_succ]
            refine wpAnyL_take 1 (oi := ⟨(some 18), (.move (.tmp 5)), 3, "ref.go:65", #[], none⟩) (v := ?v_43) rfl (by kernel_rfl) (fun _ _ _ h => h) hSw0 (yieldsIf_of rfl ?hy_43) ?hrest_43
            case hy_43 => (intro w_ hS_; (first | (go_simp; done) | (go_simp; with_reducible rfl)))
            try simp only [Act.put, List.setIfInBounds_toArray, List.set_cons_zero, List.set_cons_succ]
            refine wpAnyL_take 2 (oi := ⟨(some 19), (.indexAddr 30 (.tmp 17) (.tmp 18)), 0, "ref.go:65", #[⟨0, .data⟩, ⟨1, .data⟩], none⟩) (v := ?v_44) rfl (by kernel_rfl) (fun _ _ _ h => h) hSw0 (yieldsIf_of rfl ?hy_44) ?hrest_44
            case hy_44 => (intro w_ hS_; (first | (go_simp; done) | (go_simp; with_reducible rfl)))
            try simp only [Act.put, List.setIfInBounds_toArray, List.set_cons_zero, List.set_cons_succ]
            refine wpAnyL_take 3 (oi := ⟨(some 20), (.fieldAddr 36 (.tmp 19) 0), 0, "ref.go:65", #[⟨2, .data⟩], none⟩) (v := ?v_45) rfl (by kernel_rfl) (fun _ _ _ h => h) hSw0 (yieldsIf_of rfl ?hy_45) ?hrest_45
            case hy_45 => (intro w_ hS_; (first | (go_simp; done) | (go_simp; with_reducible rfl)))
            try simp only [Act.put, List.setIfInBounds_toArray, List.set_cons_zero, List.set_cons_succ]
            refine wpAnyL_take 4 (oi := ⟨(some 21), (.load 3 (.tmp 20)), 3, "ref.go:65", #[⟨3, .data⟩], none⟩) (v := ?v_46) rfl (by kernel_rfl) (fun _ _ _ h => h) hSw0 (yieldsIf_of rfl ?hy_46) ?hrest_46
            case hy_46 => (intro w_ hS_; have c0 := hS_.cell0 a0; have c1 := hS_.cell0 a1; have c2 := hS_.cell0 a2; have d0 := hS_.cell0 b0; have d1 := hS_.cell0 b1; have d2 := hS_.cell0 b2; (first | (go_simp; done) | (go_simp; with_reducible rfl)))
            try simp only [Act.put, List.setIfInBounds_toArray, List.set_cons_zero, List.set_cons_succ]
            refine wpAnyL_take 5 (oi := ⟨(some 22), (.move (.tmp 1)), 30, "ref.go:65", #[], none⟩) (v := ?v_47) rfl (by kernel_rfl) (fun _ _ _ h => h) hSw0 (yieldsIf_of rfl ?hy_47) ?hrest_47
            case hy_47 => (intro w_ hS_; (first | (go_simp; done) | (go_simp; with_reducible rfl)))
            try simp only [Act.put, List.setIfInBounds_toArray, List.set_cons_zero, List.set_cons_succ]
            refine wpAnyL_take 6 (oi := ⟨(some 23), (.move (.tmp 5)), 3, "ref.go:65", #[], none⟩) (v := ?v_48) rfl (by kernel_rfl) (fun _ _ _ h => h) hSw0 (yieldsIf_of rfl ?hy_48) ?hrest_48
            case hy_48 => (intro w_ hS_; (first | (go_simp; done) | (go_simp; with_reducible rfl)))
            try simp only [Act.put, List.setIfInBounds_toArray, List.set_cons_zero, List.set_cons_succ]
            refine wpAnyL_take 7 (oi := ⟨(some 24), (.indexAddr 30 (.tmp 22) (.tmp 23)), 0, "ref.go:65", #[⟨5, .data⟩, ⟨6, .data⟩], none⟩) (v := ?v_49) rfl (by kernel_rfl) (fun _ _ _ h => h) hSw0 (yieldsIf_of rfl ?hy_49) ?hrest_49
            case hy_49 => (intro w_ hS_; (first | (go_simp; done) | (go_simp; with_reducible rfl)))
            try simp only [Act.put, List.setIfInBounds_toArray, List.set_cons_zero, List.set_cons_succ]
            refine wpAnyL_take 8 (oi := ⟨(some 25), (.fieldAddr 36 (.tmp 24) 0), 0, "ref.go:65", #[⟨7, .data⟩], none⟩) (v := ?v_50) rfl (by kernel_rfl) (fun _ _ _ h => h) hSw0 (yieldsIf_of rfl ?hy_50) ?hrest_50
            case hy_50 => (intro w_ hS_; (first | (go_simp; done) | (go_simp; with_reducible rfl)))
            try simp only [Act.put, List.setIfInBounds_toArray, List.set_cons_zero, List.set_cons_succ]
            refine wpAnyL_take 9 (oi := ⟨(some 26), (.load 3 (.tmp 25)), 3, "ref.go:65", #[⟨8, .data⟩], none⟩) (v := ?v_51) rfl (by kernel_rfl) (fun _ _ _ h => h) hSw0 (yieldsIf_of rfl ?hy_51) ?hrest_51
            case hy_51 => (intro w_ hS_; have c0 := hS_.cell0 a0; have c1 := hS_.cell0 a1; have c2 := hS_.cell0 a2; have d0 := hS_.cell0 b0; have d1 := hS_.cell0 b1; have d2 := hS_.cell0 b2; (first | (go_simp; done) | (go_simp; with_reducible rfl)))
            try simp only [Act.put, List.setIfInBounds_toArray, List.set_cons_zero, List.set_cons_succ]
            refine wpAnyL_take 10 (oi := ⟨(some 27), (.binOp .neq 3 (.tmp 21) (.tmp 26) 3), 4, "ref.go:65", #[⟨4, .data⟩, ⟨9, .data⟩], none⟩) (v := ?v_52) rfl (by kernel_rfl) (fun _ _ _ h => h) hSw0 (yieldsIf_of rfl ?hy_52) ?hrest_52
            case hy_52 => (intro w_ hS_; (first | (go_simp; done) | (go_simp; with_reducible rfl)))
            try simp only [Act.put, List.setIfInBounds_toArray, List.set_cons_zero, List.set_cons_succ]
            refine wpAnyL_take 11 (oi := ⟨(some 28), (.move (.tmp 27)), 4, "ref.go:65", #[⟨10, .data⟩], none⟩) (v := ?v_53) rfl (by kernel_rfl) (fun _ _ _ h => h) hSw0 (yieldsIf_of rfl ?hy_53) ?hrest_53
            case hy_53 => (intro w_ hS_; (first | (go_simp; done) | (go_simp; with_reducible rfl)))
            try simp only [Act.put, List.setIfInBounds_toArray, List.set_cons_zero, List.set_cons_succ]
            refine wpAnyL_take 12 (oi := ⟨(some 29), (.move (.tmp 0)), 30, "ref.go:65", #[⟨11, .guard⟩], (some (11, false))⟩) (v := ?v_54) rfl (by kernel_rfl) (fun _ _ _ h => h) hSw0 (yieldsIf_of rfl ?hy_54) ?hrest_54
            case hy_54 => (intro w_ hS_; (first | (go_simp; done) | (go_simp; with_reducible rfl)))
            try simp only [Act.put, List.setIfInBounds_toArray, List.set_cons_zero, List.set_cons_succ]
            refine wpAnyL_take 13 (oi := ⟨(some 30), (.move (.tmp 5)), 3, "ref.go:65", #[⟨11, .guard⟩], (some (11, false))⟩) (v := ?v_55) rfl (by kernel_rfl) (fun _ _ _ h => h) hSw0 (yieldsIf_of rfl ?hy_55) ?hrest_55
            case hy_55 => (intro w_ hS_; (first | (go_simp; done) | (go_simp; with_reducible rfl)))
            try simp only [Act.put, List.setIfInBounds_toArray, List.set_cons_zero, List.set_cons_succ]
            refine wpAnyL_take 14 (oi := ⟨(some 31), (.indexAddr 30 (.tmp 29) (.tmp 30)), 0, "ref.go:65", #[⟨12, .data⟩, ⟨13, .data⟩, ⟨11, .guard⟩], (some (11, false))⟩) (v := ?v_56) rfl (by kernel_rfl) (fun _ _ _ h => h) hSw0 (yieldsIf_of rfl ?hy_56) ?hrest_56
            case hy_56 => (intro w_ hS_; (first | (go_simp; done) | (go_simp; with_reducible rfl)))
            try simp only [Act.put, List.setIfInBounds_toArray, List.set_cons_zero, List.set_cons_succ]
            refine wpAnyL_take 15 (oi := ⟨(some 32), (.fieldAddr 36 (.tmp 31) 1), 0, "ref.go:65", #[⟨14, .data⟩, ⟨11, .guard⟩], (some (11, false))⟩) (v := ?v_57) rfl (by kernel_rfl) (fun _ _ _ h => h) hSw0 (yieldsIf_of rfl ?hy_57) ?hrest_57
            case hy_57 => (intro w_ hS_; (first | (go_simp; done) | (go_simp; with_reducible rfl)))
            try simp only [Act.put, List.setIfInBounds_toArray, List.set_cons_zero, List.set_cons_succ]
            refine wpAnyL_take 16 (oi := ⟨(some 33), (.load 23 (.tmp 32)), 23, "ref.go:65", #[⟨15, .data⟩, ⟨11, .guard⟩], (some (11, false))⟩) (v := ?v_58) rfl (by kernel_rfl) (fun _ _ _ h => h) hSw0 (yieldsIf_of rfl ?hy_58) ?hrest_58
            case hy_58 => (intro w_ hS_; have c0 := hS_.cell0 a0; have c1 := hS_.cell0 a1; have c2 := hS_.cell0 a2; have d0 := hS_.cell0 b0; have d1 := hS_.cell0 b1; have d2 := hS_.cell0 b2; (first | (go_simp; done) | (go_simp; with_reducible rfl)))
            try simp only [Act.put, List.setIfInBounds_toArray, List.set_cons_zero, List.set_cons_succ]
            refine wpAnyL_take 17 (oi := ⟨(some 34), (.convert 23 9 (.tmp 33)), 9, "ref.go:65", #[⟨16, .data⟩, ⟨11, .guard⟩], (some (11, false))⟩) (v := ?v_59) rfl (by kernel_rfl) (fun _ _ _ h => h) hSw0 (yieldsIf_of rfl ?hy_59) ?hrest_59
            case hy_59 => (intro w_ hS_; have k3 := sa3.out _ hS_; have k4 := sa4.out _ hS_; have l3 := sb3.out _ hS_; have l4 := sb4.out _ hS_; (first | (go_simp; done) | (go_simp; with_reducible rfl)))
            try simp only [Act.put, List.setIfInBounds_toArray, List.set_cons_zero, List.set_cons_succ]
            refine wpAnyL_take 18 (oi := ⟨(some 35), (.move (.tmp 1)), 30, "ref.go:65", #[⟨11, .guard⟩], (some (11, false))⟩) (v := ?v_60) rfl (by kernel_rfl) (fun _ _ _ h => h) hSw0 (yieldsIf_of rfl ?hy_60) ?hrest_60
            case hy_60 => (intro w_ hS_; (first | (go_simp; done) | (go_simp; with_reducible rfl)))
            try simp only [Act.put, List.setIfInBounds_toArray, List.set_cons_zero, List.set_cons_succ]
            refine wpAnyL_take 19 (oi := ⟨(some 36), (.move (.tmp 5)), 3, "ref.go:65", #[⟨11, .guard⟩], (some (11, false))⟩) (v := ?v_61) rfl (by kernel_rfl) (fun _ _ _ h => h) hSw0 (yieldsIf_of rfl ?hy_61) ?hrest_61
            case hy_61 => (intro w_ hS_; (first | (go_simp; done) | (go_simp; with_reducible rfl)))
            try simp only [Act.put, List.setIfInBounds_toArray, List.set_cons_zero, List.set_cons_succ]
            refine wpAnyL_take 20 (oi := ⟨(some 37), (.indexAddr 30 (.tmp 35) (.tmp 36)), 0, "ref.go:65", #[⟨18, .data⟩, ⟨19, .data⟩, ⟨11, .guard⟩], (some (11, false))⟩) (v := ?v_62) rfl (by kernel_rfl) (fun _ _ _ h => h) hSw0 (yieldsIf_of rfl ?hy_62) ?hrest_62
            case hy_62 => (intro w_ hS_; (first | (go_simp; done) | (go_simp; with_reducible rfl)))
            try simp only [Act.put, List.setIfInBounds_toArray, List.set_cons_zero, List.set_cons_succ]
            refine wpAnyL_take 21 (oi := ⟨(some 38), (.fieldAddr 36 (.tmp 37) 1), 0, "ref.go:65", #[⟨20, .data⟩, ⟨11, .guard⟩], (some (11, false))⟩) (v := ?v_63) rfl (by kernel_rfl) (fun _ _ _ h => h) hSw0 (yieldsIf_of rfl ?hy_63) ?hrest_63
            case hy_63 => (intro w_ hS_; (first | (go_simp; done) | (go_simp; with_reducible rfl)))
            try simp only [Act.put, List.setIfInBounds_toArray, List.set_cons_zero, List.set_cons_succ]
            refine wpAnyL_take 22 (oi := ⟨(some 39), (.load 23 (.tmp 38)), 23, "ref.go:65", #[⟨21, .data⟩, ⟨11, .guard⟩], (some (11, false))⟩) (v := ?v_64) rfl (by kernel_rfl) (fun _ _ _ h => h) hSw0 (yieldsIf_of rfl ?hy_64) ?hrest_64
            case hy_64 => (intro w_ hS_; have c0 := hS_.cell0 a0; have c1 := hS_.cell0 a1; have c2 := hS_.cell0 a2; have d0 := hS_.cell0 b0; have d1 := hS_.cell0 b1; have d2 := hS_.cell0 b2; (first | (go_simp; done) | (go_simp; with_reducible rfl)))
            try simp only [Act.put, List.setIfInBounds_toArray, List.set_cons_zero, List.set_cons_succ]
            refine wpAnyL_take 23 (oi := ⟨(some 40), (.convert 23 9 (.tmp 39)), 9, "ref.go:65", #[⟨22, .data⟩, ⟨11, .guard⟩], (some (11, false))⟩) (v := ?v_65) rfl (by kernel_rfl) (fun _ _ _ h => h) hSw0 (yieldsIf_of rfl ?hy_65) ?hrest_65
            case hy_65 => (intro w_ hS_; have k3 := sa3.out _ hS_; have k4 := sa4.out _ hS_; have l3 := sb3.out _ hS_; have l4 := sb4.out _ hS_; (first | (go_simp; done) | (go_simp; with_reducible rfl)))
            try simp only [Act.put, List.setIfInBounds_toArray, List.set_cons_zero, List.set_cons_succ]
            refine wpAnyL_take 24 (oi := ⟨(some 41), (.binOp .neq 9 (.tmp 34) (.tmp 40) 9), 4, "ref.go:65", #[⟨17, .data⟩, ⟨23, .data⟩, ⟨11, .guard⟩], (some (11, false))⟩) (v := ?v_66) rfl (by kernel_rfl) (fun _ _ _ h => h) hSw0 (yieldsIf_of rfl ?hy_66) ?hrest_66
            case hy_66 => (intro w_ hS_; (first | (go_simp; done) | (go_simp; with_reducible rfl)))
            try simp only [Act.put, List.setIfInBounds_toArray, List.set_cons_zero, List.set_cons_succ]
            refine wpAnyL_take 25 (oi := ⟨(some 42), (.pick (.tmp 28) (.const (.bool true)) (.tmp 41)), 4, "ref.go:65", #[⟨11, .data⟩, ⟨24, .data⟩], none⟩) (v := ?v_67) rfl (by kernel_rfl) (fun _ _ _ h => h) hSw0 (yieldsIf_of rfl ?hy_67) ?hrest_67
            case hy_67 => (intro w_ hS_; (first | (go_simp; done) | (go_simp; with_reducible rfl)))
            try simp only [Act.put, List.setIfInBounds_toArray, List.set_cons_zero, List.set_cons_succ]
            refine wpAnyL_take 26 (oi := ⟨(some 43), (.move (.tmp 42)), 4, "ref.go:65", #[⟨25, .data⟩, ⟨11, .chain⟩], none⟩) (v := ?v_68) rfl (by kernel_rfl) (fun _ _ _ h => h) hSw0 (yieldsIf_of rfl ?hy_68) ?hrest_68
            case hy_68 => (intro w_ hS_; (first | (go_simp; done) | (go_simp; with_reducible rfl)))
            try simp only [Act.put, List.setIfInBounds_toArray, List.set_cons_zero, List.set_cons_succ]
            refine wpAnyL_take 27 (oi := ⟨(some 44), (.move (.tmp 0)), 30, "ref.go:65", #[⟨26, .guard⟩], (some (26, false))⟩) (v := ?v_69) rfl (by kernel_rfl) (fun _ _ _ h => h) hSw0 (yieldsIf_of rfl ?hy_69) ?hrest_69
            case hy_69 => (intro w_ hS_; (first | (go_simp; done) | (go_simp; with_reducible rfl)))
            try simp only [Act.put, List.setIfInBounds_toArray, List.set_cons_zero, List.set_cons_succ]
            refine wpAnyL_take 28 (oi := ⟨(some 45), (.move (.tmp 5)), 3, "ref.go:65", #[⟨26, .guard⟩], (some (26, false))⟩) (v := ?v_70) rfl (by kernel_rfl) (fun _ _ _ h => h) hSw0 (yieldsIf_of rfl ?hy_70) ?hrest_70
            case hy_70 => (intro w_ hS_; (first | (go_simp; done) | (go_simp; with_reducible rfl)))
            try simp only [Act.put, List.setIfInBounds_toArray, List.set_cons_zero, List.set_cons_succ]
            refine wpAnyL_take 29 (oi := ⟨(some 46), (.indexAddr 30 (.tmp 44) (.tmp 45)), 0, "ref.go:65", #[⟨27, .data⟩, ⟨28, .data⟩, ⟨26, .guard⟩], (some (26, false))⟩) (v := ?v_71) rfl (by kernel_rfl) (fun _ _ _ h => h) hSw0 (yieldsIf_of rfl ?hy_71) ?hrest_71
            case hy_71 => (intro w_ hS_; (first | (go_simp; done) | (go_simp; with_reducible rfl)))
            try simp only [Act.put, List.setIfInBounds_toArray, List.set_cons_zero, List.set_cons_succ]
            refine wpAnyL_take 30 (oi := ⟨(some 47), (.fieldAddr 36 (.tmp 46) 2), 0, "ref.go:65", #[⟨29, .data⟩, ⟨26, .guard⟩], (some (26, false))⟩) (v := ?v_72) rfl (by kernel_rfl) (fun _ _ _ h => h) hSw0 (yieldsIf_of rfl ?hy_72) ?hrest_72
            case hy_72 => (intro w_ hS_; (first | (go_simp; done) | (go_simp; with_reducible rfl)))
            try simp only [Act.put, List.setIfInBounds_toArray, List.set_cons_zero, List.set_cons_succ]
            refine wpAnyL_take 31 (oi := ⟨(some 48), (.load 23 (.tmp 47)), 23, "ref.go:65", #[⟨30, .data⟩, ⟨26, .guard⟩], (some (26, false))⟩) (v := ?v_73) rfl (by kernel_rfl) (fun _ _ _ h => h) hSw0 (yieldsIf_of rfl ?hy_73) ?hrest_73
            case hy_73 => (intro w_ hS_; have c0 := hS_.cell0 a0; have c1 := hS_.cell0 a1; have c2 := hS_.cell0 a2; have d0 := hS_.cell0 b0; have d1 := hS_.cell0 b1; have d2 := hS_.cell0 b2; (first | (go_simp; done) | (go_simp; with_reducible rfl)))
            try simp only [Act.put, List.setIfInBounds_toArray, List.set_cons_zero, List.set_cons_succ]
            refine wpAnyL_take 32 (oi := ⟨(some 49), (.convert 23 9 (.tmp 48)), 9, "ref.go:65", #[⟨31, .data⟩, ⟨26, .guard⟩], (some (26, false))⟩) (v := ?v_74) rfl (by kernel_rfl) (fun _ _ _ h => h) hSw0 (yieldsIf_of rfl ?hy_74) ?hrest_74
            case hy_74 => (intro w_ hS_; have k3 := sa3.out _ hS_; have k4 := sa4.out _ hS_; have l3 := sb3.out _ hS_; have l4 := sb4.out _ hS_; (first | (go_simp; done) | (go_simp; with_reducible rfl)))
            try simp only [Act.put, List.setIfInBounds_toArray, List.set_cons_zero, List.set_cons_succ]
            refine wpAnyL_take 33 (oi := ⟨(some 50), (.move (.tmp 1)), 30, "ref.go:65", #[⟨26, .guard⟩], (some (26, false))⟩) (v := ?v_75) rfl (by kernel_rfl) (fun _ _ _ h => h) hSw0 (yieldsIf_of rfl ?hy_75) ?hrest_75
            case hy_75 => (intro w_ hS_; (first | (go_simp; done) | (go_simp; with_reducible rfl)))
            try simp only [Act.put, List.setIfInBounds_toArray, List.set_cons_zero, List.set_cons_succ]
            refine wpAnyL_take 34 (oi := ⟨(some 51), (.move (.tmp 5)), 3, "ref.go:65", #[⟨26, .guard⟩], (some (26, false))⟩) (v := ?v_76) rfl (by kernel_rfl) (fun _ _ _ h => h) hSw0 (yieldsIf_of rfl ?hy_76) ?hrest_76
            case hy_76 => (intro w_ hS_; (first | (go_simp; done) | (go_simp; with_reducible rfl)))
            try simp only [Act.put, List.setIfInBounds_toArray, List.set_cons_zero, List.set_cons_succ]
            refine wpAnyL_take 35 (oi := ⟨(some 52), (.indexAddr 30 (.tmp 50) (.tmp 51)), 0, "ref.go:65", #[⟨33, .data⟩, ⟨34, .data⟩, ⟨26, .guard⟩], (some (26, false))⟩) (v := ?v_77) rfl (by kernel_rfl) (fun _ _ _ h => h) hSw0 (yieldsIf_of rfl ?hy_77) ?hrest_77
            case hy_77 => (intro w_ hS_; (first | (go_simp; done) | (go_simp; with_reducible rfl)))
            try simp only [Act.put, List.setIfInBounds_toArray, List.set_cons_zero, List.set_cons_succ]
            refine wpAnyL_take 36 (oi := ⟨(some 53), (.fieldAddr 36 (.tmp 52) 2), 0, "ref.go:65", #[⟨35, .data⟩, ⟨26, .guard⟩], (some (26, false))⟩) (v := ?v_78) rfl (by kernel_rfl) (fun _ _ _ h => h) hSw0 (yieldsIf_of rfl ?hy_78) ?hrest_78
            case hy_78 => (intro w_ hS_; (first | (go_simp; done) | (go_simp; with_reducible rfl)))
            try simp only [Act.put, List.setIfInBounds_toArray, List.set_cons_zero, List.set_cons_succ]
            refine wpAnyL_take 37 (oi := ⟨(some 54), (.load 23 (.tmp 53)), 23, "ref.go:65", #[⟨36, .data⟩, ⟨26, .guard⟩], (some (26, false))⟩) (v := ?v_79) rfl (by kernel_rfl) (fun _ _ _ h => h) hSw0 (yieldsIf_of rfl ?hy_79) ?hrest_79
            case hy_79 => (intro w_ hS_; have c0 := hS_.cell0 a0; have c1 := hS_.cell0 a1; have c2 := hS_.cell0 a2; have d0 := hS_.cell0 b0; have d1 := hS_.cell0 b1; have d2 := hS_.cell0 b2; (first | (go_simp; done) | (go_simp; with_reducible rfl)))
            try simp only [Act.put, List.setIfInBounds_toArray, List.set_cons_zero, List.set_cons_succ]
            refine wpAnyL_take 38 (oi := ⟨(some 55), (.convert 23 9 (.tmp 54)), 9, "ref.go:65", #[⟨37, .data⟩, ⟨26, .guard⟩], (some (26, false))⟩) (v := ?v_80) rfl (by kernel_rfl) (fun _ _ _ h => h) hSw0 (yieldsIf_of rfl ?hy_80) ?hrest_80
            case hy_80 => (intro w_ hS_; have k3 := sa3.out _ hS_; have k4 := sa4.out _ hS_; have l3 := sb3.out _ hS_; have l4 := sb4.out _ hS_; (first | (go_simp; done) | (go_simp; with_reducible rfl)))
            try simp only [Act.put, List.setIfInBounds_toArray, List.set_cons_zero, List.set_cons_succ]
            refine wpAnyL_take 39 (oi := ⟨(some 56), (.binOp .neq 9 (.tmp 49) (.tmp 55) 9), 4, "ref.go:65", #[⟨32, .data⟩, ⟨38, .data⟩, ⟨26, .guard⟩], (some (26, false))⟩) (v := ?v_81) rfl (by kernel_rfl) (fun _ _ _ h => h) hSw0 (yieldsIf_of rfl ?hy_81) ?hrest_81
            case hy_81 => (intro w_ hS_; (first | (go_simp; done) | (go_simp; with_reducible rfl)))
            try simp only [Act.put, List.setIfInBounds_toArray, List.set_cons_zero, List.set_cons_succ]
            refine wpAnyL_take 40 (oi := ⟨(some 57), (.pick (.tmp 43) (.const (.bool true)) (.tmp 56)), 4, "ref.go:65", #[⟨26, .data⟩, ⟨39, .data⟩], none⟩) (v := ?v_82) rfl (by kernel_rfl) (fun _ _ _ h => h) hSw0 (yieldsIf_of rfl ?hy_82) ?hrest_82
            case hy_82 => (intro w_ hS_; (first | (go_simp; done) | (go_simp; with_reducible rfl)))
            try simp only [Act.put, List.setIfInBounds_toArray, List.set_cons_zero, List.set_cons_succ]
            refine wpAnyL_done (by kernel_rfl) ?_ _
            go_wp2
            go_ret
            refine ⟨?_, HF.out.drew⟩
            rw [decide_eq_false (fun e => HK2.out (by simp only [e]))]
            rfl
        · skip
          go_wp2_with fail
          have e1 := E1.out; rw [decide_eq_false hk1] at e1
          have HK1 := Lib.hid hk1
          clear hk1
          refine wp_region_L (Fr C0 wr) [] (by kernel_rfl) ?_
          have hSw0 : (Fr C0 wr) _ := (Fr.refl C0 wr).drew
          refine wpAnyL_take 0 (oi := ⟨(some 17), (.move (.tmp 0)), 30, "ref.go:65", #[], none⟩) (v := ?v_83) rfl (by kernel_rfl) (fun _ _ _ h => h) hSw0 (yieldsIf_of rfl ?hy_83) ?hrest_83
          case hy_83 => (intro w_ hS_; (first | (go_simp; done) | (go_simp; with_reducible rfl)))
          try simp only [Act.put, List.setIfInBounds_toArray, List.set_cons_zero, List.set_cons_succ]
          refine wpAnyL_take 1 (oi := ⟨(some 18), (.move (.tmp 5)), 3, "ref.go:65", #[], none⟩) (v := ?v_84) rfl (by kernel_rfl) (fun _ _ _ h => h) hSw0 (yieldsIf_of rfl ?hy_84) ?hrest_84
          case hy_84 => (intro w_ hS_; (first | (go_simp; done) | (go_simp; with_reducible rfl)))
          try simp only [Act.put, List.setIfInBounds_toArray, List.set_cons_zero, List.set_cons_succ]
          refine wpAnyL_take 2 (oi := ⟨(some 19), (.indexAddr 30 (.tmp 17) (.tmp 18)), 0, "ref.go:65", #[⟨0, .data⟩, ⟨1, .data⟩], none⟩) (v := ?v_85) rfl (by kernel_rfl) (fun _ _ _ h => h) hSw0 (yieldsIf_of rfl ?hy_85) ?hrest_85
          case hy_85 => (intro w_ hS_; (first | (go_simp; done) | (go_simp; with_reducible rfl)))
          try simp only [Act.put, List.setIfInBounds_toArray, List.set_cons_zero, List.set_cons_succ]
          refine wpAnyL_take 3 (oi := ⟨(some 20), (.fieldAddr 36 (.tmp 19) 0), 0, "ref.go:65", #[⟨2, .data⟩], none⟩) (v := ?v_86) rfl (by kernel_rfl) (fun _ _ _ h => h) hSw0 (yieldsIf_of rfl ?hy_86) ?hrest_86
          case hy_86 => (intro w_ hS_; (first | (go_simp; done) | (go_simp; with_reducible rfl)))
          try simp only [Act.put, List.setIfInBounds_toArray, List.set_cons_zero, List.set_cons_succ]
          refine wpAnyL_take 4 (oi := ⟨(some 21), (.load 3 (.tmp 20)), 3, "ref.go:65", #[⟨3, .data⟩], none⟩) (v := ?v_87) rfl (by kernel_rfl) (fun _ _ _ h => h) hSw0 (yieldsIf_of rfl ?hy_87) ?hrest_87
          case hy_87 => (intro w_ hS_; have c0 := hS_.cell0 a0; have c1 := hS_.cell0 a1; have c2 := hS_.cell0 a2; have d0 := hS_.cell0 b0; have d1 := hS_.cell0 b1; have d2 := hS_.cell0 b2; (first | (go_simp; done) | (go_simp; with_reducible rfl)))
          try simp only [Act.put, List.setIfInBounds_toArray, List.set_cons_zero, List.set_cons_succ]
          refine wpAnyL_take 5 (oi := ⟨(some 22), (.move (.tmp 1)), 30, "ref.go:65", #[], none⟩) (v := ?v_88) rfl (by kernel_rfl) (fun _ _ _ h => h) hSw0 (yieldsIf_of rfl ?hy_88) ?hrest_88
          case hy_88 => (intro w_ hS_; (first | (go_simp; done) | (go_simp; with_reducible rfl)))
          try simp only [Act.put, List.setIfInBounds_toArray, List.set_cons_zero, List.set_cons_succ]
          refine wpAnyL_take 6 (oi := ⟨(some 23), (.move (.tmp 5)), 3, "ref.go:65", #[], none⟩) (v := ?v_89) rfl (by kernel_rfl) (fun _ _ _ h => h) hSw0 (yieldsIf_of rfl ?hy_89) ?hrest_89
          case hy_89 => (intro w_ hS_; (first | (go_simp; done) | (go_simp; with_reducible rfl)))
          try simp only [Act.put, List.setIfInBounds_toArray, List.set_cons_zero, List.set_cons_succ]
          refine wpAnyL_take 7 (oi := ⟨(some 24), (.indexAddr 30 (.tmp 22) (.tmp 23)), 0, "ref.go:65", #[⟨5, .data⟩, ⟨6, .data⟩], none⟩) (v := ?v_90) rfl (by kernel_rfl) (fun _ _ _ h => h) hSw0 (yieldsIf_of rfl ?hy_90) ?hrest_90
          case hy_90 => (intro w_ hS_; (first | (go_simp; done) | (go_simp; with_reducible rfl)))
          try simp only [Act.put, List.setIfInBounds_toArray, List.set_cons_zero, List.set_cons_succ]
          refine wpAnyL_take 8 (oi := ⟨(some 25), (.fieldAddr 36 (.tmp 24) 0), 0, "ref.go:65", #[⟨7, .data⟩], none⟩) (v := ?v_91) rfl (by kernel_rfl) (fun _ _ _ h => h) hSw0 (yieldsIf_of rfl ?hy_91) ?hrest_91
          case hy_91 => (intro w_ hS_; (first | (go_simp; done) | (go_simp; with_reducible rfl)))
          try simp only [Act.put, List.setIfInBounds_toArray, List.set_cons_zero, List.set_cons_succ]
          refine wpAnyL_take 9 (oi := ⟨(some 26), (.load 3 (.tmp 25)), 3, "ref.go:65", #[⟨8, .data⟩], none⟩) (v := ?v_92) rfl (by kernel_rfl) (fun _ _ _ h => h) hSw0 (yieldsIf_of rfl ?hy_92) ?hrest_92
          case hy_92 => (intro w_ hS_; have c0 := hS_.cell0 a0; have c1 := hS_.cell0 a1; have c2 := hS_.cell0 a2; have d0 := hS_.cell0 b0; have d1 := hS_.cell0 b1; have d2 := hS_.cell0 b2; (first | (go_simp; done) | (go_simp; with_reducible rfl)))
          try simp only [Act.put, List.setIfInBounds_toArray, List.set_cons_zero, List.set_cons_succ]
          refine wpAnyL_take 10 (oi := ⟨(some 27), (.binOp .neq 3 (.tmp 21) (.tmp 26) 3), 4, "ref.go:65", #[⟨4, .data⟩, ⟨9, .data⟩], none⟩) (v := ?v_93) rfl (by kernel_rfl) (fun _ _ _ h => h) hSw0 (yieldsIf_of rfl ?hy_93) ?hrest_93
          case hy_93 => (intro w_ hS_; (first | (go_simp; done) | (go_simp; with_reducible rfl)))
          try simp only [Act.put, List.setIfInBounds_toArray, List.set_cons_zero, List.set_cons_succ]
          refine wpAnyL_take 11 (oi := ⟨(some 28), (.move (.tmp 27)), 4, "ref.go:65", #[⟨10, .data⟩], none⟩) (v := ?v_94) rfl (by kernel_rfl) (fun _ _ _ h => h) hSw0 (yieldsIf_of rfl ?hy_94) ?hrest_94
          case hy_94 => (intro w_ hS_; (first | (go_simp; done) | (go_simp; with_reducible rfl)))
          try simp only [Act.put, List.setIfInBounds_toArray, List.set_cons_zero, List.set_cons_succ]
          refine wpAnyL_take 12 (oi := ⟨(some 29), (.move (.tmp 0)), 30, "ref.go:65", #[⟨11, .guard⟩], (some (11, false))⟩) (v := ?v_95) rfl (by kernel_rfl) (fun _ _ _ h => h) hSw0 (yieldsIf_of rfl ?hy_95) ?hrest_95
          case hy_95 => (intro w_ hS_; (first | (go_simp; done) | (go_simp; with_reducible rfl)))
          try simp only [Act.put, List.setIfInBounds_toArray, List.set_cons_zero, List.set_cons_succ]
          refine wpAnyL_take 13 (oi := ⟨(some 30), (.move (.tmp 5)), 3, "ref.go:65", #[⟨11, .guard⟩], (some (11, false))⟩) (v := ?v_96) rfl (by kernel_rfl) (fun _ _ _ h => h) hSw0 (yieldsIf_of rfl ?hy_96) ?hrest_96
          case hy_96 => (intro w_ hS_; (first | (go_simp; done) | (go_simp; with_reducible rfl)))
          try simp only [Act.put, List.setIfInBounds_toArray, List.set_cons_zero, List.set_cons_succ]
          refine wpAnyL_take 14 (oi := ⟨(some 31), (.indexAddr 30 (.tmp 29) (.tmp 30)), 0, "ref.go:65", #[⟨12, .data⟩, ⟨13, .data⟩, ⟨11, .guard⟩], (some (11, false))⟩) (v := ?v_97) rfl (by kernel_rfl) (fun _ _ _ h => h) hSw0 (yieldsIf_of rfl ?hy_97) ?hrest_97
          case hy_97 => (intro w_ hS_; (first | (go_simp; done) | (go_simp; with_reducible rfl)))
          try simp only [Act.put, List.setIfInBounds_toArray, List.set_cons_zero, List.set_cons_succ]
          refine wpAnyL_take 15 (oi := ⟨(some 32), (.fieldAddr 36 (.tmp 31) 1), 0, "ref.go:65", #[⟨14, .data⟩, ⟨11, .guard⟩], (some (11, false))⟩) (v := ?v_98) rfl (by kernel_rfl) (fun _ _ _ h => h) hSw0 (yieldsIf_of rfl ?hy_98) ?hrest_98
          case hy_98 => (intro w_ hS_; (first | (go_simp; done) | (go_simp; with_reducible rfl)))
          try simp only [Act.put, List.setIfInBounds_toArray, List.set_cons_zero, List.set_cons_succ]
          refine wpAnyL_take 16 (oi := ⟨(some 33), (.load 23 (.tmp 32)), 23, "ref.go:65", #[⟨15, .data⟩, ⟨11, .guard⟩], (some (11, false))⟩) (v := ?v_99) rfl (by kernel_rfl) (fun _ _ _ h => h) hSw0 (yieldsIf_of rfl ?hy_99) ?hrest_99
          case hy_99 => (intro w_ hS_; have c0 := hS_.cell0 a0; have c1 := hS_.cell0 a1; have c2 := hS_.cell0 a2; have d0 := hS_.cell0 b0; have d1 := hS_.cell0 b1; have d2 := hS_.cell0 b2; (first | (go_simp; done) | (go_simp; with_reducible rfl)))
          try simp only [Act.put, List.setIfInBounds_toArray, List.set_cons_zero, List.set_cons_succ]
          refine wpAnyL_take 17 (oi := ⟨(some 34), (.convert 23 9 (.tmp 33)), 9, "ref.go:65", #[⟨16, .data⟩, ⟨11, .guard⟩], (some (11, false))⟩) (v := ?v_100) rfl (by kernel_rfl) (fun _ _ _ h => h) hSw0 (yieldsIf_of rfl ?hy_100) ?hrest_100
          case hy_100 => (intro w_ hS_; have k3 := sa3.out _ hS_; have k4 := sa4.out _ hS_; have l3 := sb3.out _ hS_; have l4 := sb4.out _ hS_; (first | (go_simp; done) | (go_simp; with_reducible rfl)))
          try simp only [Act.put, List.setIfInBounds_toArray, List.set_cons_zero, List.set_cons_succ]
          refine wpAnyL_take 18 (oi := ⟨(some 35), (.move (.tmp 1)), 30, "ref.go:65", #[⟨11, .guard⟩], (some (11, false))⟩) (v := ?v_101) rfl (by kernel_rfl) (fun _ _ _ h => h) hSw0 (yieldsIf_of rfl ?hy_101) ?hrest_101
          case hy_101 => (intro w_ hS_; (first | (go_simp; done) | (go_simp; with_reducible rfl)))
          try simp only [Act.put, List.setIfInBounds_toArray, List.set_cons_zero, List.set_cons_succ]
          refine wpAnyL_take 19 (oi := ⟨(some 36), (.move (.tmp 5)), 3, "ref.go:65", #[⟨11, .guard⟩], (some (11, false))⟩) (v := ?v_102) rfl (by kernel_rfl) (fun _ _ _ h => h) hSw0 (yieldsIf_of rfl ?hy_102) ?hrest_102
          case hy_102 => (intro w_ hS_; (first | (go_simp; done) | (go_simp; with_reducible rfl)))
          try simp only [Act.put, List.setIfInBounds_toArray, List.set_cons_zero, List.set_cons_succ]
          refine wpAnyL_take 20 (oi := ⟨(some 37), (.indexAddr 30 (.tmp 35) (.tmp 36)), 0, "ref.go:65", #[⟨18, .data⟩, ⟨19, .data⟩, ⟨11, .guard⟩], (some (11, false))⟩) (v := ?v_103) rfl (by kernel_rfl) (fun _ _ _ h => h) hSw0 (yieldsIf_of rfl ?hy_103) ?hrest_103
          case hy_103 => (intro w_ hS_; (first | (go_simp; done) | (go_simp; with_reducible rfl)))
          try simp only [Act.put, List.setIfInBounds_toArray, List.set_cons_zero, List.set_cons_succ]
          refine wpAnyL_take 21 (oi := ⟨(some 38), (.fieldAddr 36 (.tmp 37) 1), 0, "ref.go:65", #[⟨20, .data⟩, ⟨11, .guard⟩], (some (11, false))⟩) (v := ?v_104) rfl (by kernel_rfl) (fun _ _ _ h => h) hSw0 (yieldsIf_of rfl ?hy_104) ?hrest_104
          case hy_104 => (intro w_ hS_; (first | (go_simp; done) | (go_simp; with_reducible rfl)))
          try simp only [Act.put, List.setIfInBounds_toArray, List.set_cons_zero, List.set_cons_succ]
          refine wpAnyL_take 22 (oi := ⟨(some 39), (.load 23 (.tmp 38)), 23, "ref.go:65", #[⟨21, .data⟩, ⟨11, .guard⟩], (some (11, false))⟩) (v := ?v_105) rfl (by kernel_rfl) (fun _ _ _ h => h) hSw0 (yieldsIf_of rfl ?hy_105) ?hrest_105
          case hy_105 => (intro w_ hS_; have c0 := hS_.cell0 a0; have c1 := hS_.cell0 a1; have c2 := hS_.cell0 a2; have d0 := hS_.cell0 b0; have d1 := hS_.cell0 b1; have d2 := hS_.cell0 b2; (first | (go_simp; done) | (go_simp; with_reducible rfl)))
          try simp only [Act.put, List.setIfInBounds_toArray, List.set_cons_zero, List.set_cons_succ]
          refine wpAnyL_take 23 (oi := ⟨(some 40), (.convert 23 9 (.tmp 39)), 9, "ref.go:65", #[⟨22, .data⟩, ⟨11, .guard⟩], (some (11, false))⟩) (v := ?v_106) rfl (by kernel_rfl) (fun _ _ _ h => h) hSw0 (yieldsIf_of rfl ?hy_106) ?hrest_106
          case hy_106 => (intro w_ hS_; have k3 := sa3.out _ hS_; have k4 := sa4.out _ hS_; have l3 := sb3.out _ hS_; have l4 := sb4.out _ hS_; (first | (go_simp; done) | (go_simp; with_reducible rfl)))
          try simp only [Act.put, List.setIfInBounds_toArray, List.set_cons_zero, List.set_cons_succ]
          refine wpAnyL_take 24 (oi := ⟨(some 41), (.binOp .neq 9 (.tmp 34) (.tmp 40) 9), 4, "ref.go:65", #[⟨17, .data⟩, ⟨23, .data⟩, ⟨11, .guard⟩], (some (11, false))⟩) (v := ?v_107) rfl (by kernel_rfl) (fun _ _ _ h => h) hSw0 (yieldsIf_of rfl ?hy_107) ?hrest_107
          case hy_107 => (intro w_ hS_; (first | (go_simp; done) | (go_simp; with_reducible rfl)))
          try simp only [Act.put, List.setIfInBounds_toArray, List.set_cons_zero, List.set_cons_succ]
          refine wpAnyL_take 25 (oi := ⟨(some 42), (.pick (.tmp 28) (.const (.bool true)) (.tmp 41)), 4, "ref.go:65", #[⟨11, .data⟩, ⟨24, .data⟩], none⟩) (v := ?v_108) rfl (by kernel_rfl) (fun _ _ _ h => h) hSw0 (yieldsIf_of rfl ?hy_108) ?hrest_108
          case hy_108 => (intro w_ hS_; (first | (go_simp; done) | (go_simp; with_reducible rfl)))
          try simp only [Act.put, List.setIfInBounds_toArray, List.set_cons_zero, List.set_cons_succ]
          refine wpAnyL_take 26 (oi := ⟨(some 43), (.move (.tmp 42)), 4, "ref.go:65", #[⟨25, .data⟩, ⟨11, .chain⟩], none⟩) (v := ?v_109) rfl (by kernel_rfl) (fun _ _ _ h => h) hSw0 (yieldsIf_of rfl ?hy_109) ?hrest_109
          case hy_109 => (intro w_ hS_; (first | (go_simp; done) | (go_simp; with_reducible rfl)))
          try simp only [Act.put, List.setIfInBounds_toArray, List.set_cons_zero, List.set_cons_succ]
          refine wpAnyL_take 27 (oi := ⟨(some 44), (.move (.tmp 0)), 30, "ref.go:65", #[⟨26, .guard⟩], (some (26, false))⟩)  rfl (by kernel_rfl) (fun _ _ _ h => h) hSw0 (yieldsIf_skip rfl) ?hrest_110
          try simp only [Act.put, List.setIfInBounds_toArray, List.set_cons_zero, List.set_cons_succ]
          refine wpAnyL_take 28 (oi := ⟨(some 45), (.move (.tmp 5)), 3, "ref.go:65", #[⟨26, .guard⟩], (some (26, false))⟩)  rfl (by kernel_rfl) (fun _ _ _ h => h) hSw0 (yieldsIf_skip rfl) ?hrest_111
          try simp only [Act.put, List.setIfInBounds_toArray, List.set_cons_zero, List.set_cons_succ]
          refine wpAnyL_take 29 (oi := ⟨(some 46), (.indexAddr 30 (.tmp 44) (.tmp 45)), 0, "ref.go:65", #[⟨27, .data⟩, ⟨28, .data⟩, ⟨26, .guard⟩], (some (26, false))⟩)  rfl (by kernel_rfl) (fun _ _ _ h => h) hSw0 (yieldsIf_skip rfl) ?hrest_112
          try simp only [Act.put, List.setIfInBounds_toArray, List.set_cons_zero, List.set_cons_succ]
          refine wpAnyL_take 30 (oi := ⟨(some 47), (.fieldAddr 36 (.tmp 46) 2), 0, "ref.go:65", #[⟨29, .data⟩, ⟨26, .guard⟩], (some (26, false))⟩)  rfl (by kernel_rfl) (fun _ _ _ h => h) hSw0 (yieldsIf_skip rfl) ?hrest_113
          try simp only [Act.put, List.setIfInBounds_toArray, List.set_cons_zero, List.set_cons_succ]
          refine wpAnyL_take 31 (oi := ⟨(some 48), (.load 23 (.tmp 47)), 23, "ref.go:65", #[⟨30, .data⟩, ⟨26, .guard⟩], (some (26, false))⟩)  rfl (by kernel_rfl) (fun _ _ _ h => h) hSw0 (yieldsIf_skip rfl) ?hrest_114
          try simp only [Act.put, List.setIfInBounds_toArray, List.set_cons_zero, List.set_cons_succ]
          refine wpAnyL_take 32 (oi := ⟨(some 49), (.convert 23 9 (.tmp 48)), 9, "ref.go:65", #[⟨31, .data⟩, ⟨26, .guard⟩], (some (26, false))⟩)  rfl (by kernel_rfl) (fun _ _ _ h => h) hSw0 (yieldsIf_skip rfl) ?hrest_115
          try simp only [Act.put, List.setIfInBounds_toArray, List.set_cons_zero, List.set_cons_succ]
          refine wpAnyL_take 33 (oi := ⟨(some 50), (.move (.tmp 1)), 30, "ref.go:65", #[⟨26, .guard⟩], (some (26, false))⟩)  rfl (by kernel_rfl) (fun _ _ _ h => h) hSw0 (yieldsIf_skip rfl) ?hrest_116
          try simp only [Act.put, List.setIfInBounds_toArray, List.set_cons_zero, List.set_cons_succ]
          refine wpAnyL_take 34 (oi := ⟨(some 51), (.move (.tmp 5)), 3, "ref.go:65", #[⟨26, .guard⟩], (some (26, false))⟩)  rfl (by kernel_rfl) (fun _ _ _ h => h) hSw0 (yieldsIf_skip rfl) ?hrest_117
          try simp only [Act.put, List.setIfInBounds_toArray, List.set_cons_zero, List.set_cons_succ]
          refine wpAnyL_take 35 (oi := ⟨(some 52), (.indexAddr 30 (.tmp 50) (.tmp 51)), 0, "ref.go:65", #[⟨33, .data⟩, ⟨34, .data⟩, ⟨26, .guard⟩], (some (26, false))⟩)  rfl (by kernel_rfl) (fun _ _ _ h => h) hSw0 (yieldsIf_skip rfl) ?hrest_118
          try simp only [Act.put, List.setIfInBounds_toArray, List.set_cons_zero, List.set_cons_succ]
          refine wpAnyL_take 36 (oi := ⟨(some 53), (.fieldAddr 36 (.tmp 52) 2), 0, "ref.go:65", #[⟨35, .data⟩, ⟨26, .guard⟩], (some (26, false))⟩)  rfl (by kernel_rfl) (fun _ _ _ h => h) hSw0 (yieldsIf_skip rfl) ?hrest_119
          try simp only [Act.put, List.setIfInBounds_toArray, List.set_cons_zero, List.set_cons_succ]
          refine wpAnyL_take 37 (oi := ⟨(some 54), (.load 23 (.tmp 53)), 23, "ref.go:65", #[⟨36, .data⟩, ⟨26, .guard⟩], (some (26, false))⟩)  rfl (by kernel_rfl) (fun _ _ _ h => h) hSw0 (yieldsIf_skip rfl) ?hrest_120
          try simp only [Act.put, List.setIfInBounds_toArray, List.set_cons_zero, List.set_cons_succ]
          refine wpAnyL_take 38 (oi := ⟨(some 55), (.convert 23 9 (.tmp 54)), 9, "ref.go:65", #[⟨37, .data⟩, ⟨26, .guard⟩], (some (26, false))⟩)  rfl (by kernel_rfl) (fun _ _ _ h => h) hSw0 (yieldsIf_skip rfl) ?hrest_121
          try simp only [Act.put, List.setIfInBounds_toArray, List.set_cons_zero, List.set_cons_succ]
          refine wpAnyL_take 39 (oi := ⟨(some 56), (.binOp .neq 9 (.tmp 49) (.tmp 55) 9), 4, "ref.go:65", #[⟨32, .data⟩, ⟨38, .data⟩, ⟨26, .guard⟩], (some (26, false))⟩)  rfl (by kernel_rfl) (fun _ _ _ h => h) hSw0 (yieldsIf_skip rfl) ?hrest_122
          try simp only [Act.put, List.setIfInBounds_toArray, List.set_cons_zero, List.set_cons_succ]
          refine wpAnyL_take 40 (oi := ⟨(some 57), (.pick (.tmp 43) (.const (.bool true)) (.tmp 56)), 4, "ref.go:65", #[⟨26, .data⟩, ⟨39, .data⟩], none⟩) (v := ?v_123) rfl (by kernel_rfl) (fun _ _ _ h => h) hSw0 (yieldsIf_of rfl ?hy_123) ?hrest_123
          case hy_123 => (intro w_ hS_; (first | (go_simp; done) | (go_simp; with_reducible rfl)))
          try simp only [Act.put, List.setIfInBounds_toArray, List.set_cons_zero, List.set_cons_succ]
          refine wpAnyL_done (by kernel_rfl) ?_ _
          go_wp2
          go_ret
          refine ⟨?_, HF.out.drew⟩
          rw [decide_eq_false (fun e => HK1.out (by simp only [e]))]
          rfl
      · obtain rfl : k = a.length := by omega
        have hbt : b.take a.length = b := List.take_of_length_le (by have := HL.out; omega)
        have hat : a.take a.length = a := List.take_of_length_le (Nat.le_refl _)
        have hE : a = b := by have := hab.out; rw [hat, hbt] at this; exact this
        have HE := Lib.hid hE
        clear hbt hat hE hab
        go_wp2
        go_ret
        refine ⟨?_, HF.out⟩
        rw [decide_eq_true HE.out]
        rfl
  · go_enter Try.func10, Try.ntmps10
    go_wp2
    go_ret
    refine ⟨?_, Fr.refl _ _⟩
    rw [decide_eq_false (fun e => hl (by rw [e]))]
    rfl
end Go.Proofs.Ytcmicdcikechkaa
end
