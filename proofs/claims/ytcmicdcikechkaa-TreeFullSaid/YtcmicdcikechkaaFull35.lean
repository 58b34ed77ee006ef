import Derived.Test.YtcmicdcikechkaaFull17
import Derived.Test.YtcmicdcikechkaaFull04
import Derived.Test.YtcmicdcikechkaaFull03
import Derived.Test.YtcmicdcikechkaaFull26
set_option linter.all false
section
namespace Go.Proofs.Ytcmicdcikechkaa
open Go.RowKit Go.H
set_option maxHeartbeats 2000000
set_option maxRecDepth 100000
def PairsAt (F : Nat → Prop) (w : World) (v : Value) (L : List KV) : Prop := ∃ xs, Row F w v L.length 3 xs ∧ PairCells F w xs L
theorem PairsAt.fr {F C : Nat → Prop} {w w' : World} {v : Value} {L : List KV} (h : PairsAt F w v L) (hf : Fr C w w') (hd : ∀ b, F b → ¬ C b) : PairsAt F w' v L := by
  obtain ⟨xs, a, b⟩ := h
  exact ⟨xs, a.fr hf hd, b.fr hf hd⟩
theorem PairsAt.fr0 {F : Nat → Prop} {w w' : World} {v : Value} {L : List KV} (h : PairsAt F w v L) (hf : Fr C0 w w') : PairsAt F w' v L := h.fr hf (fun _ _ k => k)
theorem PairsAt.mono {F F' : Nat → Prop} {w : World} {v : Value} {L : List KV} (h : PairsAt F w v L) (hF : ∀ b, F b → b < w.heap.size → F' b) : PairsAt F' w v L := by
  obtain ⟨xs, a, b⟩ := h
  exact ⟨xs, a.mono hF, b.mono hF⟩
theorem PairsAt.form {F : Nat → Prop} {w : World} {v : Value} {L : List KV} (h : PairsAt F w v L) : ∃ A c, v = .slice A L.length c ∧ L.length ≤ c ∧ c ≤ maxLen := by
  obtain ⟨xs, a, b⟩ := h
  exact a.form
theorem PairsAt.at_ {F : Nat → Prop} {w : World} {A : Option Addr} {cp : Nat} {L : List KV} (h : PairsAt F w (.slice A L.length cp) L) (i : Nat) (hi : i < L.length) : ∃ g o kv vv, A = some ⟨g, o, none⟩ ∧ w.cell? ⟨g, o + i * 3, none⟩ = some (.int .i64 0) ∧ w.cell? ⟨g, o + i * 3 + 1, none⟩ = some kv ∧ w.cell? ⟨g, o + i * 3 + 2, none⟩ = some vv ∧ BytesAt F w kv L[i].1 ∧ BytesAt F w vv L[i].2 := by
  obtain ⟨xs, a, b⟩ := h
  obtain ⟨kv, vv, h0, h1, h2, h3, h4⟩ := b.at_ i hi
  obtain ⟨g, o, rfl, _, hc⟩ := a.cells h0
  exact ⟨g, o, kv, vv, rfl, hc _ _ h0, by rw [show o + i * 3 + 1 = o + (i * 3 + 1) by omega]; exact hc _ _ h1, by rw [show o + i * 3 + 2 = o + (i * 3 + 2) by omega]; exact hc _ _ h2, h3, h4⟩
theorem OutAt.pairs {pT B : Nat} {c : Nat → Nat} {q : Nat} {w : World} {v : Value} {L : List KV} {F : Nat → Prop} (h : OutAt pT B c q w v L) (hF : ∀ b, B ≤ b → (c b = 0 ∨ c b = q) → F b) : PairsAt F w v L := by
  obtain ⟨xs, a, b, e⟩ := h
  exact ⟨xs, Row.ofOwn a (fun b hb => hF b (e b hb).2 (.inr (e b hb).1)), b.mono fun b hb _ => hF b hb.2 (.inl hb.1)⟩
theorem copied2_calls {F : Nat → Prop} {w : World} {v : Value} {l : List UInt8} (h : BytesAt F w v l) (hn : l.length ≤ 100000) :
    Calls Try.prog 11 #[v] w fun e w' => ∃ v', e = .returned v' ∧ Fr C0 w w' ∧ w'.ownsRow w.heap.size 5 1 v' l.length (l.map bv) := by
  have HR := Lib.hid (h.row.mono (F' := fun b => b < w.heap.size) (fun b _ h => h))
  obtain ⟨A, c, rfl, h1, h2⟩ := h.form
  clear h
  go_enter Try.func11, Try.ntmps11
  go_wp2_with (at_builtin; go_must (refine wpl_app sl_u8 rfl _ _ rfl (v := .slice none 0 0) (xv := .slice A l.length c) rfl rfl (B := w.heap.size) (World.ownsRow_nil _ _ _ _) HR.out (oneCell_bv l) (by unfold maxLen; omega) (by omega) (by omega) ?_); intro v2 w2 o2 f2 k2 nil2)
  go_ret
  exact ⟨v2, rfl, f2.mono (fun b _ h => by simp [Value.ownBlock] at h), by simpa using o2⟩
theorem str2 {F G : Nat → Prop} {w : World} {u v : Value} {a b : List UInt8} (ha : BytesAt F w u a) (hb : BytesAt G w v b) : ∃ x y : ByteArray, Hid (∀ w_, Fr C0 w w_ → (convert 23 9 u).run Try.prog w_ = .ok (.string x) w_) ∧ Hid (∀ w_, Fr C0 w w_ → (convert 23 9 v).run Try.prog w_ = .ok (.string y) w_) ∧ Hid ((x.toList == y.toList) = decide (a = b)) :=
  ⟨_, _, Lib.hid fun w_ hf => bytes_str (ha.fr0 hf), Lib.hid fun w_ hf => bytes_str (hb.fr0 hf), Lib.hid (by rw [ByteArray.toList_eq, ByteArray.toList_eq]; simp [beq_dec])⟩
theorem same_calls {F G : Nat → Prop} {w : World} {u v : Value} {a b : List KV} (ha : PairsAt F w u a) (hb : PairsAt G w v b) :
    Calls Try.prog 10 #[u, v] w fun e w' => e = .returned (.bool (decide (a = b))) ∧ Fr C0 w w' := by
  have HA := Lib.hid ha
  have HB := Lib.hid hb
  obtain ⟨A, ca, rfl, ha1, ha2⟩ := ha.form
  obtain ⟨B, cb, rfl, hb1, hb2⟩ := hb.form
  clear ha hb
  unfold maxLen at ha2 hb2
  by_cases hl : a.length = b.length
  · have HL := Lib.hid hl
    have hl1 : ((a.length : Int) != (b.length : Int)) = false := by simp [bne, beq_dec, hl]
    clear hl
    go_enter Try.func10, Try.ntmps10
    go_wp2
    go_loopw [5] (fun i wr => ∃ k : Nat, k ≤ a.length ∧ i = .int .i64 (k : Int) ∧ Fr C0 w wr ∧ Hid (a.take k = b.take k)) (fun i _ => a.length - (intOf i).toNat)
    case atStart => exact ⟨0, Nat.zero_le _, rfl, Fr.refl _ _, Lib.hid rfl⟩
    case round =>
      obtain ⟨k, hk, rfl, hf, hab⟩ := hrel
      have HF := Lib.hid hf
      clear hf
      by_cases hlt : k < a.length
      · have hltb : k < b.length := by have := HL.out; omega
        obtain ⟨ga, oa, kva, vva, rfl, a0, a1, a2, a3, a4⟩ := (HA.out.fr0 HF.out).at_ k hlt
        obtain ⟨gb, ob, kvb, vvb, rfl, b0, b1, b2, b3, b4⟩ := (HB.out.fr0 HF.out).at_ k hltb
        obtain ⟨x1, y1, sa3, sb3, E1⟩ := str2 a3 b3
        obtain ⟨x2, y2, sa4, sb4, E2⟩ := str2 a4 b4
        obtain ⟨_, _, rfl, -⟩ := a3.form
        obtain ⟨_, _, rfl, -⟩ := a4.form
        obtain ⟨_, _, rfl, -⟩ := b3.form
        obtain ⟨_, _, rfl, -⟩ := b4.form
        clear a3 a4 b3 b4
        by_cases hk1 : a[k].1 = b[k].1
        · by_cases hk2 : a[k].2 = b[k].2
          · skip
            go_wp2_with fail
            have e1 := E1.out; rw [decide_eq_true hk1] at e1
            have HK1 := Lib.hid hk1
            clear hk1
            have e2 := E2.out; rw [decide_eq_true hk2] at e2
            have HK2 := Lib.hid hk2
            clear hk2
            refine wp_region_L (Fr C0 wr) [] (by kernel_rfl) ?_
            have hSw0 : (Fr C0 wr) _ := (Fr.refl C0 wr).drew
            refine tk 0 ⟨(some 17), (.move (.tmp 0)), 30, "ref.go:65", #[], none⟩ hSw0 ?_
            refine tk 1 ⟨(some 18), (.move (.tmp 5)), 3, "ref.go:65", #[], none⟩ hSw0 ?_
            refine tk 2 ⟨(some 19), (.indexAddr 30 (.tmp 17) (.tmp 18)), 0, "ref.go:65", #[⟨0, .data⟩, ⟨1, .data⟩], none⟩ hSw0 ?_
            refine tk 3 ⟨(some 20), (.fieldAddr 36 (.tmp 19) 0), 0, "ref.go:65", #[⟨2, .data⟩], none⟩ hSw0 ?_
            refine tk 4 ⟨(some 21), (.load 3 (.tmp 20)), 3, "ref.go:65", #[⟨3, .data⟩], none⟩ hSw0 ?_ (by intro w_ hS_; have c0 := hS_.cell0 a0; have c1 := hS_.cell0 a1; have c2 := hS_.cell0 a2; have d0 := hS_.cell0 b0; have d1 := hS_.cell0 b1; have d2 := hS_.cell0 b2; first | (go_simp; done) | (go_simp; with_reducible rfl))
            refine tk 5 ⟨(some 22), (.move (.tmp 1)), 30, "ref.go:65", #[], none⟩ hSw0 ?_
            refine tk 6 ⟨(some 23), (.move (.tmp 5)), 3, "ref.go:65", #[], none⟩ hSw0 ?_
            refine tk 7 ⟨(some 24), (.indexAddr 30 (.tmp 22) (.tmp 23)), 0, "ref.go:65", #[⟨5, .data⟩, ⟨6, .data⟩], none⟩ hSw0 ?_
            refine tk 8 ⟨(some 25), (.fieldAddr 36 (.tmp 24) 0), 0, "ref.go:65", #[⟨7, .data⟩], none⟩ hSw0 ?_
            refine tk 9 ⟨(some 26), (.load 3 (.tmp 25)), 3, "ref.go:65", #[⟨8, .data⟩], none⟩ hSw0 ?_ (by intro w_ hS_; have c0 := hS_.cell0 a0; have c1 := hS_.cell0 a1; have c2 := hS_.cell0 a2; have d0 := hS_.cell0 b0; have d1 := hS_.cell0 b1; have d2 := hS_.cell0 b2; first | (go_simp; done) | (go_simp; with_reducible rfl))
            refine tk 10 ⟨(some 27), (.binOp .neq 3 (.tmp 21) (.tmp 26) 3), 4, "ref.go:65", #[⟨4, .data⟩, ⟨9, .data⟩], none⟩ hSw0 ?_
            refine tk 11 ⟨(some 28), (.move (.tmp 27)), 4, "ref.go:65", #[⟨10, .data⟩], none⟩ hSw0 ?_
            refine tk 12 ⟨(some 29), (.move (.tmp 0)), 30, "ref.go:65", #[⟨11, .guard⟩], (some (11, false))⟩ hSw0 ?_
            refine tk 13 ⟨(some 30), (.move (.tmp 5)), 3, "ref.go:65", #[⟨11, .guard⟩], (some (11, false))⟩ hSw0 ?_
            refine tk 14 ⟨(some 31), (.indexAddr 30 (.tmp 29) (.tmp 30)), 0, "ref.go:65", #[⟨12, .data⟩, ⟨13, .data⟩, ⟨11, .guard⟩], (some (11, false))⟩ hSw0 ?_
            refine tk 15 ⟨(some 32), (.fieldAddr 36 (.tmp 31) 1), 0, "ref.go:65", #[⟨14, .data⟩, ⟨11, .guard⟩], (some (11, false))⟩ hSw0 ?_
            refine tk 16 ⟨(some 33), (.load 23 (.tmp 32)), 23, "ref.go:65", #[⟨15, .data⟩, ⟨11, .guard⟩], (some (11, false))⟩ hSw0 ?_ (by intro w_ hS_; have c0 := hS_.cell0 a0; have c1 := hS_.cell0 a1; have c2 := hS_.cell0 a2; have d0 := hS_.cell0 b0; have d1 := hS_.cell0 b1; have d2 := hS_.cell0 b2; first | (go_simp; done) | (go_simp; with_reducible rfl))
            refine tk 17 ⟨(some 34), (.convert 23 9 (.tmp 33)), 9, "ref.go:65", #[⟨16, .data⟩, ⟨11, .guard⟩], (some (11, false))⟩ hSw0 ?_ (by intro w_ hS_; have k3 := sa3.out _ hS_; have k4 := sa4.out _ hS_; have l3 := sb3.out _ hS_; have l4 := sb4.out _ hS_; first | (go_simp; done) | (go_simp; with_reducible rfl))
            refine tk 18 ⟨(some 35), (.move (.tmp 1)), 30, "ref.go:65", #[⟨11, .guard⟩], (some (11, false))⟩ hSw0 ?_
            refine tk 19 ⟨(some 36), (.move (.tmp 5)), 3, "ref.go:65", #[⟨11, .guard⟩], (some (11, false))⟩ hSw0 ?_
            refine tk 20 ⟨(some 37), (.indexAddr 30 (.tmp 35) (.tmp 36)), 0, "ref.go:65", #[⟨18, .data⟩, ⟨19, .data⟩, ⟨11, .guard⟩], (some (11, false))⟩ hSw0 ?_
            refine tk 21 ⟨(some 38), (.fieldAddr 36 (.tmp 37) 1), 0, "ref.go:65", #[⟨20, .data⟩, ⟨11, .guard⟩], (some (11, false))⟩ hSw0 ?_
            refine tk 22 ⟨(some 39), (.load 23 (.tmp 38)), 23, "ref.go:65", #[⟨21, .data⟩, ⟨11, .guard⟩], (some (11, false))⟩ hSw0 ?_ (by intro w_ hS_; have c0 := hS_.cell0 a0; have c1 := hS_.cell0 a1; have c2 := hS_.cell0 a2; have d0 := hS_.cell0 b0; have d1 := hS_.cell0 b1; have d2 := hS_.cell0 b2; first | (go_simp; done) | (go_simp; with_reducible rfl))
            refine tk 23 ⟨(some 40), (.convert 23 9 (.tmp 39)), 9, "ref.go:65", #[⟨22, .data⟩, ⟨11, .guard⟩], (some (11, false))⟩ hSw0 ?_ (by intro w_ hS_; have k3 := sa3.out _ hS_; have k4 := sa4.out _ hS_; have l3 := sb3.out _ hS_; have l4 := sb4.out _ hS_; first | (go_simp; done) | (go_simp; with_reducible rfl))
            refine tk 24 ⟨(some 41), (.binOp .neq 9 (.tmp 34) (.tmp 40) 9), 4, "ref.go:65", #[⟨17, .data⟩, ⟨23, .data⟩, ⟨11, .guard⟩], (some (11, false))⟩ hSw0 ?_
            refine tk 25 ⟨(some 42), (.pick (.tmp 28) (.const (.bool true)) (.tmp 41)), 4, "ref.go:65", #[⟨11, .data⟩, ⟨24, .data⟩], none⟩ hSw0 ?_
            refine tk 26 ⟨(some 43), (.move (.tmp 42)), 4, "ref.go:65", #[⟨25, .data⟩, ⟨11, .chain⟩], none⟩ hSw0 ?_
            refine tk 27 ⟨(some 44), (.move (.tmp 0)), 30, "ref.go:65", #[⟨26, .guard⟩], (some (26, false))⟩ hSw0 ?_
            refine tk 28 ⟨(some 45), (.move (.tmp 5)), 3, "ref.go:65", #[⟨26, .guard⟩], (some (26, false))⟩ hSw0 ?_
            refine tk 29 ⟨(some 46), (.indexAddr 30 (.tmp 44) (.tmp 45)), 0, "ref.go:65", #[⟨27, .data⟩, ⟨28, .data⟩, ⟨26, .guard⟩], (some (26, false))⟩ hSw0 ?_
            refine tk 30 ⟨(some 47), (.fieldAddr 36 (.tmp 46) 2), 0, "ref.go:65", #[⟨29, .data⟩, ⟨26, .guard⟩], (some (26, false))⟩ hSw0 ?_
            refine tk 31 ⟨(some 48), (.load 23 (.tmp 47)), 23, "ref.go:65", #[⟨30, .data⟩, ⟨26, .guard⟩], (some (26, false))⟩ hSw0 ?_ (by intro w_ hS_; have c0 := hS_.cell0 a0; have c1 := hS_.cell0 a1; have c2 := hS_.cell0 a2; have d0 := hS_.cell0 b0; have d1 := hS_.cell0 b1; have d2 := hS_.cell0 b2; first | (go_simp; done) | (go_simp; with_reducible rfl))
            refine tk 32 ⟨(some 49), (.convert 23 9 (.tmp 48)), 9, "ref.go:65", #[⟨31, .data⟩, ⟨26, .guard⟩], (some (26, false))⟩ hSw0 ?_ (by intro w_ hS_; have k3 := sa3.out _ hS_; have k4 := sa4.out _ hS_; have l3 := sb3.out _ hS_; have l4 := sb4.out _ hS_; first | (go_simp; done) | (go_simp; with_reducible rfl))
            refine tk 33 ⟨(some 50), (.move (.tmp 1)), 30, "ref.go:65", #[⟨26, .guard⟩], (some (26, false))⟩ hSw0 ?_
            refine tk 34 ⟨(some 51), (.move (.tmp 5)), 3, "ref.go:65", #[⟨26, .guard⟩], (some (26, false))⟩ hSw0 ?_
            refine tk 35 ⟨(some 52), (.indexAddr 30 (.tmp 50) (.tmp 51)), 0, "ref.go:65", #[⟨33, .data⟩, ⟨34, .data⟩, ⟨26, .guard⟩], (some (26, false))⟩ hSw0 ?_
            refine tk 36 ⟨(some 53), (.fieldAddr 36 (.tmp 52) 2), 0, "ref.go:65", #[⟨35, .data⟩, ⟨26, .guard⟩], (some (26, false))⟩ hSw0 ?_
            refine tk 37 ⟨(some 54), (.load 23 (.tmp 53)), 23, "ref.go:65", #[⟨36, .data⟩, ⟨26, .guard⟩], (some (26, false))⟩ hSw0 ?_ (by intro w_ hS_; have c0 := hS_.cell0 a0; have c1 := hS_.cell0 a1; have c2 := hS_.cell0 a2; have d0 := hS_.cell0 b0; have d1 := hS_.cell0 b1; have d2 := hS_.cell0 b2; first | (go_simp; done) | (go_simp; with_reducible rfl))
            refine tk 38 ⟨(some 55), (.convert 23 9 (.tmp 54)), 9, "ref.go:65", #[⟨37, .data⟩, ⟨26, .guard⟩], (some (26, false))⟩ hSw0 ?_ (by intro w_ hS_; have k3 := sa3.out _ hS_; have k4 := sa4.out _ hS_; have l3 := sb3.out _ hS_; have l4 := sb4.out _ hS_; first | (go_simp; done) | (go_simp; with_reducible rfl))
            refine tk 39 ⟨(some 56), (.binOp .neq 9 (.tmp 49) (.tmp 55) 9), 4, "ref.go:65", #[⟨32, .data⟩, ⟨38, .data⟩, ⟨26, .guard⟩], (some (26, false))⟩ hSw0 ?_
            refine tk 40 ⟨(some 57), (.pick (.tmp 43) (.const (.bool true)) (.tmp 56)), 4, "ref.go:65", #[⟨26, .data⟩, ⟨39, .data⟩], none⟩ hSw0 ?_
            refine wpAnyL_done (by kernel_rfl) ?_ _
            go_wp2
            go_roundw
            case rel =>
              refine ⟨k + 1, by omega, by go_num, HF.out.drew, Lib.hid ?_⟩
              rw [List.take_succ_eq_append_getElem hlt, List.take_succ_eq_append_getElem hltb, hab.out, show a[k] = b[k] from Prod.ext HK1.out HK2.out]
            case measure => simp [intOf]; omega
          · skip
            go_wp2_with fail
            have e1 := E1.out; rw [decide_eq_true hk1] at e1
            have HK1 := Lib.hid hk1
            clear hk1
            have e2 := E2.out; rw [decide_eq_false hk2] at e2
            have HK2 := Lib.hid hk2
            clear hk2
            refine wp_region_L (Fr C0 wr) [] (by kernel_rfl) ?_
            have hSw0 : (Fr C0 wr) _ := (Fr.refl C0 wr).drew
            refine tk 0 ⟨(some 17), (.move (.tmp 0)), 30, "ref.go:65", #[], none⟩ hSw0 ?_
            refine tk 1 ⟨(some 18), (.move (.tmp 5)), 3, "ref.go:65", #[], none⟩ hSw0 ?_
            refine tk 2 ⟨(some 19), (.indexAddr 30 (.tmp 17) (.tmp 18)), 0, "ref.go:65", #[⟨0, .data⟩, ⟨1, .data⟩], none⟩ hSw0 ?_
            refine tk 3 ⟨(some 20), (.fieldAddr 36 (.tmp 19) 0), 0, "ref.go:65", #[⟨2, .data⟩], none⟩ hSw0 ?_
            refine tk 4 ⟨(some 21), (.load 3 (.tmp 20)), 3, "ref.go:65", #[⟨3, .data⟩], none⟩ hSw0 ?_ (by intro w_ hS_; have c0 := hS_.cell0 a0; have c1 := hS_.cell0 a1; have c2 := hS_.cell0 a2; have d0 := hS_.cell0 b0; have d1 := hS_.cell0 b1; have d2 := hS_.cell0 b2; first | (go_simp; done) | (go_simp; with_reducible rfl))
            refine tk 5 ⟨(some 22), (.move (.tmp 1)), 30, "ref.go:65", #[], none⟩ hSw0 ?_
            refine tk 6 ⟨(some 23), (.move (.tmp 5)), 3, "ref.go:65", #[], none⟩ hSw0 ?_
            refine tk 7 ⟨(some 24), (.indexAddr 30 (.tmp 22) (.tmp 23)), 0, "ref.go:65", #[⟨5, .data⟩, ⟨6, .data⟩], none⟩ hSw0 ?_
            refine tk 8 ⟨(some 25), (.fieldAddr 36 (.tmp 24) 0), 0, "ref.go:65", #[⟨7, .data⟩], none⟩ hSw0 ?_
            refine tk 9 ⟨(some 26), (.load 3 (.tmp 25)), 3, "ref.go:65", #[⟨8, .data⟩], none⟩ hSw0 ?_ (by intro w_ hS_; have c0 := hS_.cell0 a0; have c1 := hS_.cell0 a1; have c2 := hS_.cell0 a2; have d0 := hS_.cell0 b0; have d1 := hS_.cell0 b1; have d2 := hS_.cell0 b2; first | (go_simp; done) | (go_simp; with_reducible rfl))
            refine tk 10 ⟨(some 27), (.binOp .neq 3 (.tmp 21) (.tmp 26) 3), 4, "ref.go:65", #[⟨4, .data⟩, ⟨9, .data⟩], none⟩ hSw0 ?_
            refine tk 11 ⟨(some 28), (.move (.tmp 27)), 4, "ref.go:65", #[⟨10, .data⟩], none⟩ hSw0 ?_
            refine tk 12 ⟨(some 29), (.move (.tmp 0)), 30, "ref.go:65", #[⟨11, .guard⟩], (some (11, false))⟩ hSw0 ?_
            refine tk 13 ⟨(some 30), (.move (.tmp 5)), 3, "ref.go:65", #[⟨11, .guard⟩], (some (11, false))⟩ hSw0 ?_
            refine tk 14 ⟨(some 31), (.indexAddr 30 (.tmp 29) (.tmp 30)), 0, "ref.go:65", #[⟨12, .data⟩, ⟨13, .data⟩, ⟨11, .guard⟩], (some (11, false))⟩ hSw0 ?_
            refine tk 15 ⟨(some 32), (.fieldAddr 36 (.tmp 31) 1), 0, "ref.go:65", #[⟨14, .data⟩, ⟨11, .guard⟩], (some (11, false))⟩ hSw0 ?_
            refine tk 16 ⟨(some 33), (.load 23 (.tmp 32)), 23, "ref.go:65", #[⟨15, .data⟩, ⟨11, .guard⟩], (some (11, false))⟩ hSw0 ?_ (by intro w_ hS_; have c0 := hS_.cell0 a0; have c1 := hS_.cell0 a1; have c2 := hS_.cell0 a2; have d0 := hS_.cell0 b0; have d1 := hS_.cell0 b1; have d2 := hS_.cell0 b2; first | (go_simp; done) | (go_simp; with_reducible rfl))
            refine tk 17 ⟨(some 34), (.convert 23 9 (.tmp 33)), 9, "ref.go:65", #[⟨16, .data⟩, ⟨11, .guard⟩], (some (11, false))⟩ hSw0 ?_ (by intro w_ hS_; have k3 := sa3.out _ hS_; have k4 := sa4.out _ hS_; have l3 := sb3.out _ hS_; have l4 := sb4.out _ hS_; first | (go_simp; done) | (go_simp; with_reducible rfl))
            refine tk 18 ⟨(some 35), (.move (.tmp 1)), 30, "ref.go:65", #[⟨11, .guard⟩], (some (11, false))⟩ hSw0 ?_
            refine tk 19 ⟨(some 36), (.move (.tmp 5)), 3, "ref.go:65", #[⟨11, .guard⟩], (some (11, false))⟩ hSw0 ?_
            refine tk 20 ⟨(some 37), (.indexAddr 30 (.tmp 35) (.tmp 36)), 0, "ref.go:65", #[⟨18, .data⟩, ⟨19, .data⟩, ⟨11, .guard⟩], (some (11, false))⟩ hSw0 ?_
            refine tk 21 ⟨(some 38), (.fieldAddr 36 (.tmp 37) 1), 0, "ref.go:65", #[⟨20, .data⟩, ⟨11, .guard⟩], (some (11, false))⟩ hSw0 ?_
            refine tk 22 ⟨(some 39), (.load 23 (.tmp 38)), 23, "ref.go:65", #[⟨21, .data⟩, ⟨11, .guard⟩], (some (11, false))⟩ hSw0 ?_ (by intro w_ hS_; have c0 := hS_.cell0 a0; have c1 := hS_.cell0 a1; have c2 := hS_.cell0 a2; have d0 := hS_.cell0 b0; have d1 := hS_.cell0 b1; have d2 := hS_.cell0 b2; first | (go_simp; done) | (go_simp; with_reducible rfl))
            refine tk 23 ⟨(some 40), (.convert 23 9 (.tmp 39)), 9, "ref.go:65", #[⟨22, .data⟩, ⟨11, .guard⟩], (some (11, false))⟩ hSw0 ?_ (by intro w_ hS_; have k3 := sa3.out _ hS_; have k4 := sa4.out _ hS_; have l3 := sb3.out _ hS_; have l4 := sb4.out _ hS_; first | (go_simp; done) | (go_simp; with_reducible rfl))
            refine tk 24 ⟨(some 41), (.binOp .neq 9 (.tmp 34) (.tmp 40) 9), 4, "ref.go:65", #[⟨17, .data⟩, ⟨23, .data⟩, ⟨11, .guard⟩], (some (11, false))⟩ hSw0 ?_
            refine tk 25 ⟨(some 42), (.pick (.tmp 28) (.const (.bool true)) (.tmp 41)), 4, "ref.go:65", #[⟨11, .data⟩, ⟨24, .data⟩], none⟩ hSw0 ?_
            refine tk 26 ⟨(some 43), (.move (.tmp 42)), 4, "ref.go:65", #[⟨25, .data⟩, ⟨11, .chain⟩], none⟩ hSw0 ?_
            refine tk 27 ⟨(some 44), (.move (.tmp 0)), 30, "ref.go:65", #[⟨26, .guard⟩], (some (26, false))⟩ hSw0 ?_
            refine tk 28 ⟨(some 45), (.move (.tmp 5)), 3, "ref.go:65", #[⟨26, .guard⟩], (some (26, false))⟩ hSw0 ?_
            refine tk 29 ⟨(some 46), (.indexAddr 30 (.tmp 44) (.tmp 45)), 0, "ref.go:65", #[⟨27, .data⟩, ⟨28, .data⟩, ⟨26, .guard⟩], (some (26, false))⟩ hSw0 ?_
            refine tk 30 ⟨(some 47), (.fieldAddr 36 (.tmp 46) 2), 0, "ref.go:65", #[⟨29, .data⟩, ⟨26, .guard⟩], (some (26, false))⟩ hSw0 ?_
            refine tk 31 ⟨(some 48), (.load 23 (.tmp 47)), 23, "ref.go:65", #[⟨30, .data⟩, ⟨26, .guard⟩], (some (26, false))⟩ hSw0 ?_ (by intro w_ hS_; have c0 := hS_.cell0 a0; have c1 := hS_.cell0 a1; have c2 := hS_.cell0 a2; have d0 := hS_.cell0 b0; have d1 := hS_.cell0 b1; have d2 := hS_.cell0 b2; first | (go_simp; done) | (go_simp; with_reducible rfl))
            refine tk 32 ⟨(some 49), (.convert 23 9 (.tmp 48)), 9, "ref.go:65", #[⟨31, .data⟩, ⟨26, .guard⟩], (some (26, false))⟩ hSw0 ?_ (by intro w_ hS_; have k3 := sa3.out _ hS_; have k4 := sa4.out _ hS_; have l3 := sb3.out _ hS_; have l4 := sb4.out _ hS_; first | (go_simp; done) | (go_simp; with_reducible rfl))
            refine tk 33 ⟨(some 50), (.move (.tmp 1)), 30, "ref.go:65", #[⟨26, .guard⟩], (some (26, false))⟩ hSw0 ?_
            refine tk 34 ⟨(some 51), (.move (.tmp 5)), 3, "ref.go:65", #[⟨26, .guard⟩], (some (26, false))⟩ hSw0 ?_
            refine tk 35 ⟨(some 52), (.indexAddr 30 (.tmp 50) (.tmp 51)), 0, "ref.go:65", #[⟨33, .data⟩, ⟨34, .data⟩, ⟨26, .guard⟩], (some (26, false))⟩ hSw0 ?_
            refine tk 36 ⟨(some 53), (.fieldAddr 36 (.tmp 52) 2), 0, "ref.go:65", #[⟨35, .data⟩, ⟨26, .guard⟩], (some (26, false))⟩ hSw0 ?_
            refine tk 37 ⟨(some 54), (.load 23 (.tmp 53)), 23, "ref.go:65", #[⟨36, .data⟩, ⟨26, .guard⟩], (some (26, false))⟩ hSw0 ?_ (by intro w_ hS_; have c0 := hS_.cell0 a0; have c1 := hS_.cell0 a1; have c2 := hS_.cell0 a2; have d0 := hS_.cell0 b0; have d1 := hS_.cell0 b1; have d2 := hS_.cell0 b2; first | (go_simp; done) | (go_simp; with_reducible rfl))
            refine tk 38 ⟨(some 55), (.convert 23 9 (.tmp 54)), 9, "ref.go:65", #[⟨37, .data⟩, ⟨26, .guard⟩], (some (26, false))⟩ hSw0 ?_ (by intro w_ hS_; have k3 := sa3.out _ hS_; have k4 := sa4.out _ hS_; have l3 := sb3.out _ hS_; have l4 := sb4.out _ hS_; first | (go_simp; done) | (go_simp; with_reducible rfl))
            refine tk 39 ⟨(some 56), (.binOp .neq 9 (.tmp 49) (.tmp 55) 9), 4, "ref.go:65", #[⟨32, .data⟩, ⟨38, .data⟩, ⟨26, .guard⟩], (some (26, false))⟩ hSw0 ?_
            refine tk 40 ⟨(some 57), (.pick (.tmp 43) (.const (.bool true)) (.tmp 56)), 4, "ref.go:65", #[⟨26, .data⟩, ⟨39, .data⟩], none⟩ hSw0 ?_
            refine wpAnyL_done (by kernel_rfl) ?_ _
            go_wp2
            go_ret
            refine ⟨?_, HF.out.drew⟩
            rw [decide_eq_false (fun e => HK2.out (by simp only [e]))]
            rfl
        · skip
          go_wp2_with fail
          have e1 := E1.out; rw [decide_eq_false hk1] at e1
          have HK1 := Lib.hid hk1
          clear hk1
          refine wp_region_L (Fr C0 wr) [] (by kernel_rfl) ?_
          have hSw0 : (Fr C0 wr) _ := (Fr.refl C0 wr).drew
          refine tk 0 ⟨(some 17), (.move (.tmp 0)), 30, "ref.go:65", #[], none⟩ hSw0 ?_
          refine tk 1 ⟨(some 18), (.move (.tmp 5)), 3, "ref.go:65", #[], none⟩ hSw0 ?_
          refine tk 2 ⟨(some 19), (.indexAddr 30 (.tmp 17) (.tmp 18)), 0, "ref.go:65", #[⟨0, .data⟩, ⟨1, .data⟩], none⟩ hSw0 ?_
          refine tk 3 ⟨(some 20), (.fieldAddr 36 (.tmp 19) 0), 0, "ref.go:65", #[⟨2, .data⟩], none⟩ hSw0 ?_
          refine tk 4 ⟨(some 21), (.load 3 (.tmp 20)), 3, "ref.go:65", #[⟨3, .data⟩], none⟩ hSw0 ?_ (by intro w_ hS_; have c0 := hS_.cell0 a0; have c1 := hS_.cell0 a1; have c2 := hS_.cell0 a2; have d0 := hS_.cell0 b0; have d1 := hS_.cell0 b1; have d2 := hS_.cell0 b2; first | (go_simp; done) | (go_simp; with_reducible rfl))
          refine tk 5 ⟨(some 22), (.move (.tmp 1)), 30, "ref.go:65", #[], none⟩ hSw0 ?_
          refine tk 6 ⟨(some 23), (.move (.tmp 5)), 3, "ref.go:65", #[], none⟩ hSw0 ?_
          refine tk 7 ⟨(some 24), (.indexAddr 30 (.tmp 22) (.tmp 23)), 0, "ref.go:65", #[⟨5, .data⟩, ⟨6, .data⟩], none⟩ hSw0 ?_
          refine tk 8 ⟨(some 25), (.fieldAddr 36 (.tmp 24) 0), 0, "ref.go:65", #[⟨7, .data⟩], none⟩ hSw0 ?_
          refine tk 9 ⟨(some 26), (.load 3 (.tmp 25)), 3, "ref.go:65", #[⟨8, .data⟩], none⟩ hSw0 ?_ (by intro w_ hS_; have c0 := hS_.cell0 a0; have c1 := hS_.cell0 a1; have c2 := hS_.cell0 a2; have d0 := hS_.cell0 b0; have d1 := hS_.cell0 b1; have d2 := hS_.cell0 b2; first | (go_simp; done) | (go_simp; with_reducible rfl))
          refine tk 10 ⟨(some 27), (.binOp .neq 3 (.tmp 21) (.tmp 26) 3), 4, "ref.go:65", #[⟨4, .data⟩, ⟨9, .data⟩], none⟩ hSw0 ?_
          refine tk 11 ⟨(some 28), (.move (.tmp 27)), 4, "ref.go:65", #[⟨10, .data⟩], none⟩ hSw0 ?_
          refine tk 12 ⟨(some 29), (.move (.tmp 0)), 30, "ref.go:65", #[⟨11, .guard⟩], (some (11, false))⟩ hSw0 ?_
          refine tk 13 ⟨(some 30), (.move (.tmp 5)), 3, "ref.go:65", #[⟨11, .guard⟩], (some (11, false))⟩ hSw0 ?_
          refine tk 14 ⟨(some 31), (.indexAddr 30 (.tmp 29) (.tmp 30)), 0, "ref.go:65", #[⟨12, .data⟩, ⟨13, .data⟩, ⟨11, .guard⟩], (some (11, false))⟩ hSw0 ?_
          refine tk 15 ⟨(some 32), (.fieldAddr 36 (.tmp 31) 1), 0, "ref.go:65", #[⟨14, .data⟩, ⟨11, .guard⟩], (some (11, false))⟩ hSw0 ?_
          refine tk 16 ⟨(some 33), (.load 23 (.tmp 32)), 23, "ref.go:65", #[⟨15, .data⟩, ⟨11, .guard⟩], (some (11, false))⟩ hSw0 ?_ (by intro w_ hS_; have c0 := hS_.cell0 a0; have c1 := hS_.cell0 a1; have c2 := hS_.cell0 a2; have d0 := hS_.cell0 b0; have d1 := hS_.cell0 b1; have d2 := hS_.cell0 b2; first | (go_simp; done) | (go_simp; with_reducible rfl))
          refine tk 17 ⟨(some 34), (.convert 23 9 (.tmp 33)), 9, "ref.go:65", #[⟨16, .data⟩, ⟨11, .guard⟩], (some (11, false))⟩ hSw0 ?_ (by intro w_ hS_; have k3 := sa3.out _ hS_; have k4 := sa4.out _ hS_; have l3 := sb3.out _ hS_; have l4 := sb4.out _ hS_; first | (go_simp; done) | (go_simp; with_reducible rfl))
          refine tk 18 ⟨(some 35), (.move (.tmp 1)), 30, "ref.go:65", #[⟨11, .guard⟩], (some (11, false))⟩ hSw0 ?_
          refine tk 19 ⟨(some 36), (.move (.tmp 5)), 3, "ref.go:65", #[⟨11, .guard⟩], (some (11, false))⟩ hSw0 ?_
          refine tk 20 ⟨(some 37), (.indexAddr 30 (.tmp 35) (.tmp 36)), 0, "ref.go:65", #[⟨18, .data⟩, ⟨19, .data⟩, ⟨11, .guard⟩], (some (11, false))⟩ hSw0 ?_
          refine tk 21 ⟨(some 38), (.fieldAddr 36 (.tmp 37) 1), 0, "ref.go:65", #[⟨20, .data⟩, ⟨11, .guard⟩], (some (11, false))⟩ hSw0 ?_
          refine tk 22 ⟨(some 39), (.load 23 (.tmp 38)), 23, "ref.go:65", #[⟨21, .data⟩, ⟨11, .guard⟩], (some (11, false))⟩ hSw0 ?_ (by intro w_ hS_; have c0 := hS_.cell0 a0; have c1 := hS_.cell0 a1; have c2 := hS_.cell0 a2; have d0 := hS_.cell0 b0; have d1 := hS_.cell0 b1; have d2 := hS_.cell0 b2; first | (go_simp; done) | (go_simp; with_reducible rfl))
          refine tk 23 ⟨(some 40), (.convert 23 9 (.tmp 39)), 9, "ref.go:65", #[⟨22, .data⟩, ⟨11, .guard⟩], (some (11, false))⟩ hSw0 ?_ (by intro w_ hS_; have k3 := sa3.out _ hS_; have k4 := sa4.out _ hS_; have l3 := sb3.out _ hS_; have l4 := sb4.out _ hS_; first | (go_simp; done) | (go_simp; with_reducible rfl))
          refine tk 24 ⟨(some 41), (.binOp .neq 9 (.tmp 34) (.tmp 40) 9), 4, "ref.go:65", #[⟨17, .data⟩, ⟨23, .data⟩, ⟨11, .guard⟩], (some (11, false))⟩ hSw0 ?_
          refine tk 25 ⟨(some 42), (.pick (.tmp 28) (.const (.bool true)) (.tmp 41)), 4, "ref.go:65", #[⟨11, .data⟩, ⟨24, .data⟩], none⟩ hSw0 ?_
          refine tk 26 ⟨(some 43), (.move (.tmp 42)), 4, "ref.go:65", #[⟨25, .data⟩, ⟨11, .chain⟩], none⟩ hSw0 ?_
          refine tks 27 ⟨(some 44), (.move (.tmp 0)), 30, "ref.go:65", #[⟨26, .guard⟩], (some (26, false))⟩ hSw0 ?_
          try simp only [Act.put, List.setIfInBounds_toArray, List.set_cons_zero, List.set_cons_succ]
          refine tks 28 ⟨(some 45), (.move (.tmp 5)), 3, "ref.go:65", #[⟨26, .guard⟩], (some (26, false))⟩ hSw0 ?_
          try simp only [Act.put, List.setIfInBounds_toArray, List.set_cons_zero, List.set_cons_succ]
          refine tks 29 ⟨(some 46), (.indexAddr 30 (.tmp 44) (.tmp 45)), 0, "ref.go:65", #[⟨27, .data⟩, ⟨28, .data⟩, ⟨26, .guard⟩], (some (26, false))⟩ hSw0 ?_
          try simp only [Act.put, List.setIfInBounds_toArray, List.set_cons_zero, List.set_cons_succ]
          refine tks 30 ⟨(some 47), (.fieldAddr 36 (.tmp 46) 2), 0, "ref.go:65", #[⟨29, .data⟩, ⟨26, .guard⟩], (some (26, false))⟩ hSw0 ?_
          try simp only [Act.put, List.setIfInBounds_toArray, List.set_cons_zero, List.set_cons_succ]
          refine tks 31 ⟨(some 48), (.load 23 (.tmp 47)), 23, "ref.go:65", #[⟨30, .data⟩, ⟨26, .guard⟩], (some (26, false))⟩ hSw0 ?_
          try simp only [Act.put, List.setIfInBounds_toArray, List.set_cons_zero, List.set_cons_succ]
          refine tks 32 ⟨(some 49), (.convert 23 9 (.tmp 48)), 9, "ref.go:65", #[⟨31, .data⟩, ⟨26, .guard⟩], (some (26, false))⟩ hSw0 ?_
          try simp only [Act.put, List.setIfInBounds_toArray, List.set_cons_zero, List.set_cons_succ]
          refine tks 33 ⟨(some 50), (.move (.tmp 1)), 30, "ref.go:65", #[⟨26, .guard⟩], (some (26, false))⟩ hSw0 ?_
          try simp only [Act.put, List.setIfInBounds_toArray, List.set_cons_zero, List.set_cons_succ]
          refine tks 34 ⟨(some 51), (.move (.tmp 5)), 3, "ref.go:65", #[⟨26, .guard⟩], (some (26, false))⟩ hSw0 ?_
          try simp only [Act.put, List.setIfInBounds_toArray, List.set_cons_zero, List.set_cons_succ]
          refine tks 35 ⟨(some 52), (.indexAddr 30 (.tmp 50) (.tmp 51)), 0, "ref.go:65", #[⟨33, .data⟩, ⟨34, .data⟩, ⟨26, .guard⟩], (some (26, false))⟩ hSw0 ?_
          try simp only [Act.put, List.setIfInBounds_toArray, List.set_cons_zero, List.set_cons_succ]
          refine tks 36 ⟨(some 53), (.fieldAddr 36 (.tmp 52) 2), 0, "ref.go:65", #[⟨35, .data⟩, ⟨26, .guard⟩], (some (26, false))⟩ hSw0 ?_
          try simp only [Act.put, List.setIfInBounds_toArray, List.set_cons_zero, List.set_cons_succ]
          refine tks 37 ⟨(some 54), (.load 23 (.tmp 53)), 23, "ref.go:65", #[⟨36, .data⟩, ⟨26, .guard⟩], (some (26, false))⟩ hSw0 ?_
          try simp only [Act.put, List.setIfInBounds_toArray, List.set_cons_zero, List.set_cons_succ]
          refine tks 38 ⟨(some 55), (.convert 23 9 (.tmp 54)), 9, "ref.go:65", #[⟨37, .data⟩, ⟨26, .guard⟩], (some (26, false))⟩ hSw0 ?_
          try simp only [Act.put, List.setIfInBounds_toArray, List.set_cons_zero, List.set_cons_succ]
          refine tks 39 ⟨(some 56), (.binOp .neq 9 (.tmp 49) (.tmp 55) 9), 4, "ref.go:65", #[⟨32, .data⟩, ⟨38, .data⟩, ⟨26, .guard⟩], (some (26, false))⟩ hSw0 ?_
          try simp only [Act.put, List.setIfInBounds_toArray, List.set_cons_zero, List.set_cons_succ]
          refine tk 40 ⟨(some 57), (.pick (.tmp 43) (.const (.bool true)) (.tmp 56)), 4, "ref.go:65", #[⟨26, .data⟩, ⟨39, .data⟩], none⟩ hSw0 ?_
          refine wpAnyL_done (by kernel_rfl) ?_ _
          go_wp2
          go_ret
          refine ⟨?_, HF.out.drew⟩
          rw [decide_eq_false (fun e => HK1.out (by simp only [e]))]
          rfl
      · obtain rfl : k = a.length := by omega
        have hbt : b.take a.length = b := List.take_of_length_le (by have := HL.out; omega)
        have hat : a.take a.length = a := List.take_of_length_le (Nat.le_refl _)
        have hE : a = b := by have := hab.out; rw [hat, hbt] at this; exact this
        have HE := Lib.hid hE
        clear hbt hat hE hab
        go_wp2
        go_ret
        refine ⟨?_, HF.out⟩
        rw [decide_eq_true HE.out]
        rfl
  · go_enter Try.func10, Try.ntmps10
    go_wp2
    go_ret
    refine ⟨?_, Fr.refl _ _⟩
    rw [decide_eq_false (fun e => hl (by rw [e]))]
    rfl
end Go.Proofs.Ytcmicdcikechkaa
end
