import Derived.Test.YtcmicdcikechkaaOrders33
import Derived.Test.YtcmicdcikechkaaOrders42
import Derived.Test.YtcmicdcikechkaaOrders15
import Derived.Deep.CutRange
import Derived.Deep.LoopGhost
import Derived.Deep.CutBlock
import Derived.Deep.DeepCutAuto
set_option linter.all false
section
namespace Go.Proofs.Ytcmicdcikechkaa
open Go.RowKit Go.H
set_option maxHeartbeats 2000000
set_option maxRecDepth 100000
theorem str3 {F G : Nat → Prop} {w : World} {u v : Value} {a b : List UInt8} (ha : BytesAt F w u a) (hb : BytesAt G w v b) : ∃ x y : ByteArray, Hid (∀ w_, Fr C0 w w_ → (convert 23 9 u).run Try.prog w_ = .ok (.string x) w_) ∧ Hid (∀ w_, Fr C0 w w_ → (convert 23 9 v).run Try.prog w_ = .ok (.string y) w_) ∧ Hid ((x.toList == y.toList) = decide (a = b)) ∧ Hid (Op.bytesLess x.toList y.toList = decide (bcmp a b < 0)) :=
  ⟨_, _, Lib.hid fun w_ hf => bytes_str (ha.fr0 hf), Lib.hid fun w_ hf => bytes_str (hb.fr0 hf), Lib.hid (by rw [ByteArray.toList_eq, ByteArray.toList_eq]; simp [beq_dec]), Lib.hid (by rw [ByteArray.toList_eq, ByteArray.toList_eq, ← bytesLess_bcmp])⟩
theorem lat_calls {F G : Nat → Prop} {w : World} {u v : Value} {l : List KV} {key : List UInt8} (hl : PairsAt F w u l) (hk : BytesAt G w v key) :
    Calls Try.prog 36 #[u, v] w fun e w' => e = .returned (.tuple #[.int .i64 (atN key l : Int), .bool (atB key l)]) ∧ Fr C0 w w' := by
  have HA := Lib.hid hl
  have HB := Lib.hid hk
  obtain ⟨A, ca, rfl, ha1, ha2⟩ := hl.form
  obtain ⟨B, cb, rfl, -⟩ := hk.form
  clear hl hk
  unfold maxLen at ha2
  go_enter Try.func36, Try.ntmps36
  go_wp2
  go_loopw [6] (fun i wr => ∃ k : Nat, k ≤ l.length ∧ i = .int .i64 (k : Int) ∧ Fr C0 w wr ∧ Hid (atN key l = k + atN key (l.drop k) ∧ atB key l = atB key (l.drop k))) (fun i _ => l.length - (intOf i).toNat)
  case atStart => exact ⟨0, Nat.zero_le _, rfl, Fr.refl _ _, Lib.hid ⟨by simp, by simp⟩⟩
  case round =>
    obtain ⟨k, hk, rfl, hf, HI⟩ := hrel
    have HF := Lib.hid hf
    clear hf
    by_cases hlt : k < l.length
    · obtain ⟨ga, oa, kva, vva, rfl, a0, a1, a2, a3, a4⟩ := (HA.out.fr0 HF.out).at_ k hlt
      obtain ⟨x1, y1, sa3, sb3, E1, E2⟩ := str3 a3 (HB.out.fr0 HF.out)
      obtain ⟨_, _, rfl, -⟩ := a3.form
      clear a3 a4
      by_cases hb : bcmp l[k].1 key < 0
      · have e2 := E2.out; rw [decide_eq_true hb] at e2
        have HBL := Lib.hid hb
        clear hb
        go_wp2_with fail
        refine wp_region_L (Fr C0 wr) [] (by kernel_rfl) ?_
        have hSw0 : (Fr C0 wr) _ := (Fr.refl C0 wr).drew
        refine tk 0 hSw0 ?_
        refine tk 1 hSw0 ?_
        refine tk 2 hSw0 ?_
        refine tk 3 hSw0 ?_
        refine tk 4 hSw0 ?_ (hy := by intro w_ hS_; have c0 := hS_.cell0 a0; have c1 := hS_.cell0 a1; have c2 := hS_.cell0 a2; first | (go_simp; done) | (go_simp; with_reducible rfl))
        refine tk 5 hSw0 ?_ (hy := by intro w_ hS_; have k3 := sa3.out _ hS_; have l3 := sb3.out _ hS_; first | (go_simp; done) | (go_simp; with_reducible rfl))
        refine tk 6 hSw0 ?_
        refine tk 7 hSw0 ?_ (hy := by intro w_ hS_; have k3 := sa3.out _ hS_; have l3 := sb3.out _ hS_; first | (go_simp; done) | (go_simp; with_reducible rfl))
        refine tk 8 hSw0 ?_
        refine wpAnyL_done (by kernel_rfl) ?_ _
        go_wp2
        go_roundw
        case rel => exact ⟨k + 1, by omega, by go_num, HF.out.drew, Lib.hid ⟨atN_step hlt HI.out.1 HBL.out, atB_step hlt HI.out.2 HBL.out⟩⟩
        case measure => simp [intOf]; omega
      · have e2 := E2.out; rw [decide_eq_false hb] at e2
        have HBL := Lib.hid (at_here hlt HI.out.1 HI.out.2 hb)
        clear hb
        go_wp2_with fail
        refine wp_region_L (Fr C0 wr) [] (by kernel_rfl) ?_
        have hSw0 : (Fr C0 wr) _ := (Fr.refl C0 wr).drew
        refine tk 0 hSw0 ?_
        refine tk 1 hSw0 ?_
        refine tk 2 hSw0 ?_
        refine tk 3 hSw0 ?_
        refine tk 4 hSw0 ?_ (hy := by intro w_ hS_; have c0 := hS_.cell0 a0; have c1 := hS_.cell0 a1; have c2 := hS_.cell0 a2; first | (go_simp; done) | (go_simp; with_reducible rfl))
        refine tk 5 hSw0 ?_ (hy := by intro w_ hS_; have k3 := sa3.out _ hS_; have l3 := sb3.out _ hS_; first | (go_simp; done) | (go_simp; with_reducible rfl))
        refine tk 6 hSw0 ?_
        refine tk 7 hSw0 ?_ (hy := by intro w_ hS_; have k3 := sa3.out _ hS_; have l3 := sb3.out _ hS_; first | (go_simp; done) | (go_simp; with_reducible rfl))
        refine tk 8 hSw0 ?_
        refine wpAnyL_done (by kernel_rfl) ?_ _
        go_wp2_with fail
        refine wp_region_L (Fr C0 wr) [] (by kernel_rfl) ?_
        have hSw0 : (Fr C0 wr) _ := (Fr.refl C0 wr).drew.drew
        refine tk 0 hSw0 ?_
        refine tk 1 hSw0 ?_
        refine tk 2 hSw0 ?_
        refine tk 3 hSw0 ?_
        refine tk 4 hSw0 ?_
        refine tk 5 hSw0 ?_ (hy := by intro w_ hS_; have c0 := hS_.cell0 a0; have c1 := hS_.cell0 a1; have c2 := hS_.cell0 a2; first | (go_simp; done) | (go_simp; with_reducible rfl))
        refine tk 6 hSw0 ?_ (hy := by intro w_ hS_; have k3 := sa3.out _ hS_; have l3 := sb3.out _ hS_; first | (go_simp; done) | (go_simp; with_reducible rfl))
        refine tk 7 hSw0 ?_
        refine tk 8 hSw0 ?_ (hy := by intro w_ hS_; have k3 := sa3.out _ hS_; have l3 := sb3.out _ hS_; first | (go_simp; done) | (go_simp; with_reducible rfl))
        refine tk 9 hSw0 ?_
        refine tk 10 hSw0 ?_
        refine tk 11 hSw0 ?_
        refine wpAnyL_done (by kernel_rfl) ?_ _
        go_wp2
        go_ret2
        refine ⟨?_, HF.out.drew.drew⟩
        rw [HBL.out.1, HBL.out.2, E1.out]
        rfl
    · obtain rfl : k = l.length := by omega
      have HE := Lib.hid (at_end HI.out.1 HI.out.2)
      go_wp2
      go_ret2
      refine ⟨?_, HF.out⟩
      rw [HE.out.1, HE.out.2]
      rfl
theorem PairCells.take_ {F : Nat → Prop} {w : World} : ∀ {xs : List Value} {l : List KV} (n : Nat), PairCells F w xs l → PairCells F w (xs.take (n * 3)) (l.take n)
  | _, _, n, .nil => by simp; exact .nil
  | _, _, 0, .cons h1 h2 h3 => by simp; exact .nil
  | _, _, n + 1, .cons h1 h2 h3 => by
    rw [show (n + 1) * 3 = n * 3 + 1 + 1 + 1 by omega]
    simp only [List.take_succ_cons]
    exact .cons h1 h2 (take_ n h3)
theorem PairCells.drop_ {F : Nat → Prop} {w : World} : ∀ {xs : List Value} {l : List KV} (n : Nat), PairCells F w xs l → PairCells F w (xs.drop (n * 3)) (l.drop n)
  | _, _, n, .nil => by simp; exact .nil
  | _, _, 0, .cons h1 h2 h3 => by simp; exact .cons h1 h2 h3
  | _, _, n + 1, .cons h1 h2 h3 => by
    rw [show (n + 1) * 3 = n * 3 + 1 + 1 + 1 by omega]
    simp only [List.drop_succ_cons]
    exact drop_ n h3
theorem lput_join {F : Nat → Prop} {w w2 w4 w5 w6 : World} {v2 v3 v4 v5 v6 : Value} {xs : List Value} {l : List KV} {x : KV} {N m i : Nat} (hc : PairCells F w xs l) (h2 : w.heap.size ≤ w2.heap.size) (f4 : Fr C0 w w4)
    (b3 : BytesAt (fun b => w2.heap.size ≤ b ∧ b < w4.heap.size) w4 v3 x.1) (b4 : BytesAt (fun b => w2.heap.size ≤ b ∧ b < w4.heap.size) w4 v4 x.2) (hv2 : ∀ b, v2.ownBlock = some b → w.heap.size ≤ b ∧ b < w2.heap.size)
    (f5 : Fr (fun b => v2.ownBlock = some b) w4 w5) (k5 : ∀ b, v5.ownBlock = some b → v2.ownBlock = some b ∨ w4.heap.size < b) (f6 : Fr (fun b => v5.ownBlock = some b) w5 w6) (o6 : w6.ownsRow w.heap.size 36 3 v6 m (xs.take (N * 3) ++ [.int .i64 0, v3, v4] ++ xs.drop (i * 3)))
    (hm : m = (putL x l).length) (hp : putL x l = l.take N ++ x :: l.drop i) : Fr C0 w w6 ∧ PairsAt (fun b => F b ∨ w.heap.size ≤ b) w6 v6 (putL x l) := by
  have s5 := f5.size
  have s4 := f4.size
  have k6 : ∀ b, v5.ownBlock = some b → w.heap.size ≤ b ∧ (b < w2.heap.size ∨ w4.heap.size < b) := fun b e => by
    rcases k5 b e with e | e
    · exact ⟨(hv2 b e).1, .inl (hv2 b e).2⟩
    · exact ⟨by omega, .inr e⟩
  have F6 : Fr C0 w w6 := (f4.trans f5 (fun b hb e => by have := (hv2 b e).1; omega)).trans f6 (fun b hb e => by have := (k6 b e).1; omega)
  refine ⟨F6, xs.take (N * 3) ++ [.int .i64 0, v3, v4] ++ xs.drop (i * 3), by rw [← hm]; exact Row.ofOwn o6 (fun b e => .inr (o6.lt b e).1), ?_⟩
  rw [hp, List.append_assoc]
  have old : PairCells (fun b => F b ∨ w.heap.size ≤ b) w6 xs l := (hc.fr F6 (fun _ _ k => k)).mono (fun b h _ => .inl h)
  have nw : ∀ {v : Value} {y : Bs}, BytesAt (fun b => w2.heap.size ≤ b ∧ b < w4.heap.size) w4 v y → BytesAt (fun b => F b ∨ w.heap.size ≤ b) w6 v y := fun h =>
    ((h.fr f5 (fun b hb e => by have := (hv2 b e).2; omega)).fr f6 (fun b hb e => by have := (k6 b e).2; omega)).mono (fun b hb _ => .inr (by omega))
  exact (PairCells.append (.cons (nw b3) (nw b4) (PairCells.drop_ i old))) (PairCells.take_ N old)
theorem lput_calls {F : Nat → Prop} {w : World} {lv kv vv : Value} {l : List KV} {x : KV} (hl : PairsAt F w lv l) (hk : BytesAt F w kv x.1) (hv : BytesAt F w vv x.2) (h1 : x.1.length ≤ 100000) (h2 : x.2.length ≤ 100000) (hb : l.length ≤ 100000) :
    Calls Try.prog 15 #[lv, kv, vv] w fun e w' => ∃ A c, e = .returned (.slice A (putL x l).length c) ∧ Hid (Fr C0 w w' ∧ PairsAt (fun b => F b ∨ w.heap.size ≤ b) w' (.slice A (putL x l).length c) (putL x l)) := by
  have HP := Lib.hid (putL_at x l)
  have HL := Lib.hid hl
  have HK := Lib.hid hk
  have HV := Lib.hid hv
  have HAT := Lib.hid (lat_calls hl hk)
  obtain ⟨A, ca, rfl, ha1, ha2⟩ := hl.form
  obtain ⟨B, cb, rfl, -⟩ := hk.form
  obtain ⟨D, cd, rfl, -⟩ := hv.form
  obtain ⟨xs, hr, hc⟩ := hl
  have HR := Lib.hid (hr.mono (F' := fun b => b < w.heap.size) (fun _ _ h => h))
  have HC := Lib.hid hc
  have H1 := Lib.hid (pair_one hc)
  have hN := atN_le x.1 l
  have HLT := Lib.hid (atB_lt x.1 l)
  unfold maxLen at ha2
  have HA2 := Lib.hid ha1
  clear hk hv hr hc
  generalize hn : atN x.1 l = N at *
  clear hn
  cases hbb : atB x.1 l
  · skip
    have hi : N ≤ l.length := by first | exact hN | exact HLT.out hbb
    rw [hbb] at HP HAT
    have HPE : Hid (putL x l = l.take N ++ x :: l.drop N) := Lib.hid HP.out
    have HPL : Hid ((putL x l).length = N + 1 + (l.length - N)) := Lib.hid (by rw [HPE.out]; simp; omega)
    clear hbb HP HLT
    go_enter Try.func15, Try.ntmps15
    go_wp2_with fail
    refine HAT.out.mono ?_
    rintro e w1 ⟨rfl, f1⟩
    have F1 := Lib.hid f1
    have hs1 := f1.size
    clear f1
    go_wp2_with (at_builtin; go_must (refine wpl_app sl_pair rfl _ _ rfl (v := .slice none 0 0) (xv := .slice A N ca) rfl rfl (B := w.heap.size) (World.ownsRow_nil _ _ _ _) ((HR.out.take hN).fr0 F1.out) (oneCell_take H1.out) (by unfold maxLen; omega) (by omega) (by omega) ?_); intro v2 w2 o2 f2 k2 nil2; rw [Nat.zero_add] at o2; obtain ⟨A2, c2, rfl, -⟩ := own_form o2)
    have F2 : Hid (Fr C0 w w2) := Lib.hid (F1.out.trans f2 (fun b _ h => by simp [Value.ownBlock] at h))
    have O2 := Lib.hid o2
    have hs2 := F2.out.size
    clear o2 f2 k2 nil2
    refine (copied2_calls (HK.out.fr0 F2.out) h1).mono ?_
    rintro e w3 ⟨v3, rfl, f3, o3⟩
    have F3 := Lib.hid (F2.out.trans0 f3)
    have O3 := Lib.hid o3
    have O23 := Lib.hid (own_kept O2.out f3 (fun _ _ h => h))
    obtain ⟨A3, c3, rfl, -⟩ := own_form o3
    have hs3 := f3.size
    clear o3 f3
    go_wp2_with fail
    refine (copied2_calls (HV.out.fr0 F3.out) h2).mono ?_
    rintro e w4 ⟨v4, rfl, f4, o4⟩
    have F4 := Lib.hid (F3.out.trans0 f4)
    have hs4 := f4.size
    have O24 := Lib.hid (own_kept O23.out f4 (fun _ _ h => h))
    have B3 := Lib.hid ((BytesAt.ofOwn O3.out (F := fun b => w2.heap.size ≤ b) (fun b e => (O3.out.lt b e).1)).fr0 f4)
    have B4 := Lib.hid (BytesAt.ofOwn o4 (F := fun b => w2.heap.size ≤ b) (fun b e => by have := (o4.lt b e).1; omega))
    obtain ⟨A4, c4, rfl, -⟩ := own_form o4
    clear o4 f4
    go_wp2_with (at_builtin; first
      | (refine wpl_app sl_pair rfl _ _ rfl (v := .slice A2 N c2) (xv := .slice (some ⟨w4.heap.size, 0, none⟩) 1 1) rfl rfl (B := w.heap.size) (own_kept O24.out ((Fr.refl C0 w4).alloc _) (fun _ _ h => h)) (Row.ofBlock (F := fun _ => True) (heap_alloc_new _ _) trivial (by unfold maxLen; omega) rfl) (by simp [Value.oneCell']) (by unfold maxLen; omega) (by omega) (Nat.le_trans (show w.heap.size ≤ w4.heap.size by omega) ((Fr.refl C0 w4).alloc _).size) ?_
         intro v5 w5 o5 f5 k5 nil5
         obtain ⟨A5, c5, rfl, -⟩ := own_form o5
         have O5 := Lib.hid o5
         have K5 := Lib.hid k5
         have F5 := Lib.hid (((Fr.refl (fun b => (Value.slice A2 N c2).ownBlock = some b) w4).alloc (.cells #[.int .i64 0, .slice A3 x.1.length c3, .slice A4 x.2.length c4] 36)).trans f5 (fun b _ h => h))
         have F05 := Lib.hid (F4.out.transO F5.out (fun b e => (O24.out.lt b e).1))
         have hs5 := F05.out.size
         clear o5 f5 k5 nil5)
      | (refine wpl_app sl_pair rfl _ _ rfl (v := .slice A5 (N + 1) c5) (xv := .slice (if ca = N then A else A.map (·.add (N * 3))) (l.length - N) (ca - N)) rfl rfl (B := w.heap.size) O5.out ((HR.out.drop hi).fr0 F05.out) (oneCell_drop H1.out) (by unfold maxLen; omega) (by omega) hs5 ?_
         intro v6 w6 o6 f6 k6 nil6
         obtain ⟨A6, c6, rfl, -⟩ := own_form o6))
    all_goals
      have J := lput_join HC.out hs2 F4.out (B3.out.mono (fun b h hl => ⟨h, hl⟩)) (B4.out.mono (fun b h hl => ⟨h, hl⟩)) (fun b e => O2.out.lt b e) F5.out (fun b e => (K5.out b e).imp id (fun h => by simp at h; omega)) f6 o6 HPL.out.symm HPE.out
      rw [HPL.out]
      go_ret
      refine ⟨A6, c6, ?_, Lib.hid J⟩
      first
        | rfl
        | (rw [show N + 1 + (l.length - (N + 1)) = l.length by omega]; rfl)
  · skip
    have hi : (N + 1) ≤ l.length := by first | exact hN | exact HLT.out hbb
    rw [hbb] at HP HAT
    have HPE : Hid (putL x l = l.take N ++ x :: l.drop (N + 1)) := Lib.hid HP.out
    have HPL : Hid ((putL x l).length = N + 1 + (l.length - (N + 1))) := Lib.hid (by rw [HPE.out]; simp; omega)
    clear hbb HP HLT
    go_enter Try.func15, Try.ntmps15
    go_wp2_with fail
    refine HAT.out.mono ?_
    rintro e w1 ⟨rfl, f1⟩
    have F1 := Lib.hid f1
    have hs1 := f1.size
    clear f1
    go_wp2_with (at_builtin; go_must (refine wpl_app sl_pair rfl _ _ rfl (v := .slice none 0 0) (xv := .slice A N ca) rfl rfl (B := w.heap.size) (World.ownsRow_nil _ _ _ _) ((HR.out.take hN).fr0 F1.out) (oneCell_take H1.out) (by unfold maxLen; omega) (by omega) (by omega) ?_); intro v2 w2 o2 f2 k2 nil2; rw [Nat.zero_add] at o2; obtain ⟨A2, c2, rfl, -⟩ := own_form o2)
    have F2 : Hid (Fr C0 w w2) := Lib.hid (F1.out.trans f2 (fun b _ h => by simp [Value.ownBlock] at h))
    have O2 := Lib.hid o2
    have hs2 := F2.out.size
    clear o2 f2 k2 nil2
    refine (copied2_calls (HK.out.fr0 F2.out) h1).mono ?_
    rintro e w3 ⟨v3, rfl, f3, o3⟩
    have F3 := Lib.hid (F2.out.trans0 f3)
    have O3 := Lib.hid o3
    have O23 := Lib.hid (own_kept O2.out f3 (fun _ _ h => h))
    obtain ⟨A3, c3, rfl, -⟩ := own_form o3
    have hs3 := f3.size
    clear o3 f3
    go_wp2_with fail
    refine (copied2_calls (HV.out.fr0 F3.out) h2).mono ?_
    rintro e w4 ⟨v4, rfl, f4, o4⟩
    have F4 := Lib.hid (F3.out.trans0 f4)
    have hs4 := f4.size
    have O24 := Lib.hid (own_kept O23.out f4 (fun _ _ h => h))
    have B3 := Lib.hid ((BytesAt.ofOwn O3.out (F := fun b => w2.heap.size ≤ b) (fun b e => (O3.out.lt b e).1)).fr0 f4)
    have B4 := Lib.hid (BytesAt.ofOwn o4 (F := fun b => w2.heap.size ≤ b) (fun b e => by have := (o4.lt b e).1; omega))
    obtain ⟨A4, c4, rfl, -⟩ := own_form o4
    clear o4 f4
    go_wp2_with (at_builtin; first
      | (refine wpl_app sl_pair rfl _ _ rfl (v := .slice A2 N c2) (xv := .slice (some ⟨w4.heap.size, 0, none⟩) 1 1) rfl rfl (B := w.heap.size) (own_kept O24.out ((Fr.refl C0 w4).alloc _) (fun _ _ h => h)) (Row.ofBlock (F := fun _ => True) (heap_alloc_new _ _) trivial (by unfold maxLen; omega) rfl) (by simp [Value.oneCell']) (by unfold maxLen; omega) (by omega) (Nat.le_trans (show w.heap.size ≤ w4.heap.size by omega) ((Fr.refl C0 w4).alloc _).size) ?_
         intro v5 w5 o5 f5 k5 nil5
         obtain ⟨A5, c5, rfl, -⟩ := own_form o5
         have O5 := Lib.hid o5
         have K5 := Lib.hid k5
         have F5 := Lib.hid (((Fr.refl (fun b => (Value.slice A2 N c2).ownBlock = some b) w4).alloc (.cells #[.int .i64 0, .slice A3 x.1.length c3, .slice A4 x.2.length c4] 36)).trans f5 (fun b _ h => h))
         have F05 := Lib.hid (F4.out.transO F5.out (fun b e => (O24.out.lt b e).1))
         have hs5 := F05.out.size
         clear o5 f5 k5 nil5)
      | (refine wpl_app sl_pair rfl _ _ rfl (v := .slice A5 (N + 1) c5) (xv := .slice (if ca = (N + 1) then A else A.map (·.add ((N + 1) * 3))) (l.length - (N + 1)) (ca - (N + 1))) rfl rfl (B := w.heap.size) O5.out ((HR.out.drop hi).fr0 F05.out) (oneCell_drop H1.out) (by unfold maxLen; omega) (by omega) hs5 ?_
         intro v6 w6 o6 f6 k6 nil6
         obtain ⟨A6, c6, rfl, -⟩ := own_form o6))
    all_goals
      have J := lput_join HC.out hs2 F4.out (B3.out.mono (fun b h hl => ⟨h, hl⟩)) (B4.out.mono (fun b h hl => ⟨h, hl⟩)) (fun b e => O2.out.lt b e) F5.out (fun b e => (K5.out b e).imp id (fun h => by simp at h; omega)) f6 o6 HPL.out.symm HPE.out
      rw [HPL.out]
      go_ret
      refine ⟨A6, c6, ?_, Lib.hid J⟩
      first
        | rfl
        | (rw [show N + 1 + (l.length - (N + 1)) = l.length by omega]; rfl)
end Go.Proofs.Ytcmicdcikechkaa
end
section
namespace Go.Proofs.Ytcmicdcikechkaa
open Go.RowKit Go.H
set_option maxHeartbeats 2000000
set_option maxRecDepth 100000
theorem left_at {c : Nat → Nat} {r rn rm : Nat} {w : World} {tp k : Nat} {Z : TSt} (h : TreeAt c r rn rm w tp Z k) : Calls Try.prog 13 #[.pointer (some ⟨tp, 0, none⟩)] w fun e w' => e = .returned (.int .i64 (((Z.S.pages - Z.S.state.length) - rootDirty Z.now : Nat) : Int)) ∧ Fr C0 w w' := by
  obtain ⟨st, lm, km, nr, lr, gv, ov, sn, h⟩ := h
  have hsm := h.hd.alive.small
  have hrm := h.bk.room
  have HD := Lib.hid (fun (w_ : World) (hf : Fr C0 w w_) => dirty_root (h.now.fr0 hf) (show rootDirty Z.now ≤ 1000000 by omega))
  have HL := Lib.hid (fun (w_ : World) (hf : Fr C0 w w_) => by
    obtain ⟨sm, d, m, ov, hs⟩ := (h.hd.fr0 hf).store
    exact left_calls hs h.hd.alive.small h.bk.slen)
  have c0 : w.cell? ⟨tp, 0, none⟩ = some (.pointer (some ⟨st, 0, none⟩)) := blk_cell h.blk 0 rfl
  have c1 : w.cell? ⟨tp, 1, none⟩ = some nr := blk_cell h.blk 1 rfl
  have hone : nr = .nilIface ∨ ∃ tx y, nr = .iface tx y := by
    have hr := h.now
    cases hz : Z.now with
    | none => rw [hz] at hr; exact .inl hr
    | some p => rw [hz] at hr; exact .inr hr.1.iface
  have hwr : IntKind.i64.wrap (((Z.S.pages - Z.S.state.length : Nat) : Int) - (rootDirty Z.now : Int)) = ((Z.S.pages - Z.S.state.length : Nat) : Int) - (rootDirty Z.now : Int) := wraps_i64 _ (by omega) (by omega)
  generalize Z.S.pages - Z.S.state.length = Lf at *
  generalize rootDirty Z.now = R at *
  clear h
  rcases hone with rfl | ⟨tx, y, rfl⟩
  · skip
    have hsub : ((Lf - R : Nat) : Int) = (Lf : Int) - (R : Int) := by omega
    rw [hsub]
    go_enter Try.func13, Try.ntmps13
    go_wp2_with fail
    refine wp_region_L (Fr C0 w) [] (by kernel_rfl) ?_
    have hSw0 : (Fr C0 w) _ := (Fr.refl C0 w).drew
    refine tk 0 hSw0 ?_
    refine tk 1 hSw0 ?_
    refine tk 2 hSw0 ?_
    refine tk 3 hSw0 ?_ (hy := by intro w_ hS_; have b0 := hS_.cell0 c0; have b1 := hS_.cell0 c1; first | (go_simp; done) | (go_simp; with_reducible rfl))
    refine tk 4 hSw0 ?_
    refine tk 5 hSw0 ?_
    refine tk 7 hSw0 ?_
    refine tk 8 hSw0 ?_
    refine tk 9 hSw0 ?_
    refine tk 10 hSw0 ?_
    refine tk 11 hSw0 ?_ (hy := by intro w_ hS_; have b0 := hS_.cell0 c0; have b1 := hS_.cell0 c1; first | (go_simp; done) | (go_simp; with_reducible rfl))
    refine one_ 6 rfl (fun K hK => ?_)
    go_simp
    refine (HL.out _ (by assumption)).mono ?_
    rintro e w5 ⟨rfl, rfl⟩
    simp only []
    refine hK.out _ _ ?kS1 (fun hSw1 => ?kR1)
    case kS1 => exact Fr.drew (by assumption)
    clear hK K
    try simp only [Act.put, List.setIfInBounds_toArray, List.set_cons_zero, List.set_cons_succ]
    refine one_ 12 rfl (fun K hK => ?_)
    go_simp
    refine (HD.out _ (by assumption)).mono ?_
    rintro e w5 ⟨rfl, rfl⟩
    simp only []
    refine hK.out _ _ ?kS2 (fun hSw2 => ?kR2)
    case kS2 => assumption
    clear hK K
    try simp only [Act.put, List.setIfInBounds_toArray, List.set_cons_zero, List.set_cons_succ]
    refine tk 13 hSw2 ?_
    refine tk 14 hSw2 ?_
    refine wpAnyL_done (by kernel_rfl) ?_ _
    go_wp2
    go_ret
    exact ⟨rfl, by assumption⟩
  · skip
    have hsub : ((Lf - R : Nat) : Int) = (Lf : Int) - (R : Int) := by omega
    rw [hsub]
    go_enter Try.func13, Try.ntmps13
    go_wp2_with fail
    refine wp_region_L (Fr C0 w) [] (by kernel_rfl) ?_
    have hSw0 : (Fr C0 w) _ := (Fr.refl C0 w).drew
    refine tk 0 hSw0 ?_
    refine tk 1 hSw0 ?_
    refine tk 2 hSw0 ?_
    refine tk 3 hSw0 ?_ (hy := by intro w_ hS_; have b0 := hS_.cell0 c0; have b1 := hS_.cell0 c1; first | (go_simp; done) | (go_simp; with_reducible rfl))
    refine tk 4 hSw0 ?_
    refine tk 5 hSw0 ?_
    refine tk 7 hSw0 ?_
    refine tk 8 hSw0 ?_
    refine tk 9 hSw0 ?_
    refine tk 10 hSw0 ?_
    refine tk 11 hSw0 ?_ (hy := by intro w_ hS_; have b0 := hS_.cell0 c0; have b1 := hS_.cell0 c1; first | (go_simp; done) | (go_simp; with_reducible rfl))
    refine one_ 6 rfl (fun K hK => ?_)
    go_simp
    refine (HL.out _ (by assumption)).mono ?_
    rintro e w5 ⟨rfl, rfl⟩
    simp only []
    refine hK.out _ _ ?kS3 (fun hSw1 => ?kR3)
    case kS3 => exact Fr.drew (by assumption)
    clear hK K
    try simp only [Act.put, List.setIfInBounds_toArray, List.set_cons_zero, List.set_cons_succ]
    refine one_ 12 rfl (fun K hK => ?_)
    go_simp
    refine (HD.out _ (by assumption)).mono ?_
    rintro e w5 ⟨rfl, rfl⟩
    simp only []
    refine hK.out _ _ ?kS4 (fun hSw2 => ?kR4)
    case kS4 => assumption
    clear hK K
    try simp only [Act.put, List.setIfInBounds_toArray, List.set_cons_zero, List.set_cons_succ]
    refine tk 13 hSw2 ?_
    refine tk 14 hSw2 ?_
    refine wpAnyL_done (by kernel_rfl) ?_ _
    go_wp2
    go_ret
    exact ⟨rfl, by assumption⟩
theorem depth_at {c : Nat → Nat} {r rn rm : Nat} {w : World} {tp k : Nat} {Z : TSt} (h : TreeAt c r rn rm w tp Z k) : Calls Try.prog 14 #[.pointer (some ⟨tp, 0, none⟩)] w fun e w' => e = .returned (.int .i64 (rootD Z.now : Int)) ∧ w = w' := by
  obtain ⟨st, lm, km, nr, lr, gv, ov, sn, h⟩ := h
  exact tdepth_calls h.blk
theorem depth_count : ∀ {d m : Nat} {t : T}, 1 ≤ m → Shape d m t → d ≤ (flat d t).length
  | 0, _, _, _, h => h.elim
  | d + 1, m, .node nm l ks, hm, h => by
    obtain ⟨h1, h2, h3, h4⟩ := h
    by_cases hd : d = 0
    · subst hd
      show 1 ≤ (if 0 = 0 then l else _).length
      rw [if_pos rfl]; omega
    · rw [if_neg hd] at h4
      show d + 1 ≤ (if d = 0 then l else _).length
      rw [if_neg hd, inter_length (by simpa using h4.1)]
      cases ks with
      | nil => simp at h4
      | cons k ks =>
        have h5 := depth_count (by omega) (h4.2 k (by simp))
        simp [sumN]; omega
theorem rootD_count {o : Root} (h : RootSh o) : rootD o ≤ (rootL o).length := by
  cases o with
  | none => exact Nat.zero_le _
  | some p => exact depth_count (Nat.le_refl _) h
theorem TreeAt.shape {c : Nat → Nat} {r rn rm : Nat} {w : World} {tp : Nat} {Z : TSt} {k : Nat} (h : TreeAt c r rn rm w tp Z k) : RootSh Z.now := by
  obtain ⟨st, lm, km, nr, lr, gv, ov, sn, h⟩ := h
  have := h.now.sh
  cases hz : Z.now with
  | none => trivial
  | some p => rw [hz] at this; exact this
end Go.Proofs.Ytcmicdcikechkaa
end
section
namespace Go.H
theorem rangeL_all (l : List KV) : rangeL [] [] l = l := List.filter_eq_self.2 fun x _ => by simp [inR]
theorem sorted_filter {l : List KV} {p : KV → Bool} (h : Sorted l) : Sorted (l.filter p) := h.sublist List.filter_sublist
theorem range_cut {k : List UInt8} (hk : k ≠ []) : ∀ {l : List KV}, Sorted l → rangeL [] k l ++ rangeL k [] l = l
  | [], _ => rfl
  | x :: l, h => by
    have h1 := List.pairwise_cons.1 h
    have ih := range_cut hk h1.2
    have hs := bcmp_swap x.1 k
    by_cases hx : bcmp x.1 k < 0
    · have e1 : rangeL [] k (x :: l) = x :: rangeL [] k l := by simp [rangeL, inR, hx]
      have e2 : rangeL k [] (x :: l) = rangeL k [] l := by
        have : ¬ bcmp k x.1 ≤ 0 := by omega
        simp [rangeL, inR, hk, this]
      rw [e1, e2, List.cons_append, ih]
    · have e1 : rangeL [] k (x :: l) = [] := by
        refine List.filter_eq_nil_iff.2 fun y hy => ?_
        have hy2 : ¬ bcmp y.1 k < 0 := by
          rcases List.mem_cons.1 hy with rfl | hy
          · exact hx
          · intro h3
            exact hx (bcmp_trans (h1.1 y hy) h3)
        simp [inR, hk, hy2]
      have e2 : rangeL k [] (x :: l) = x :: l := by
        refine List.filter_eq_self.2 fun y hy => ?_
        have hy2 : bcmp k y.1 ≤ 0 := by
          rcases List.mem_cons.1 hy with rfl | hy
          · omega
          · by_cases h0 : bcmp x.1 k = 0
            · have := h1.1 y hy
              unfold klt at this
              rw [← bcmp_zero h0]; omega
            · have := bcmp_trans (a := k) (b := x.1) (c := y.1) (by omega) (h1.1 y hy)
              omega
        simp [inR, hy2]
      rw [e1, e2]; rfl
theorem bcmp_snoc : ∀ (k y : List UInt8), bcmp (k ++ [0]) y ≤ 0 ↔ bcmp k y < 0
  | [], [] => by simp [bcmp]
  | [], b :: bs => by
    simp only [List.nil_append, bcmp]
    have hz : ¬ b < 0 := by simp [UInt8.lt_iff_toNat_lt]
    split
    · simp
    · cases bs <;> simp [bcmp, hz]
  | a :: az, [] => by simp [bcmp]
  | a :: az, b :: bs => by
    have ih := bcmp_snoc az bs
    simp only [List.cons_append, bcmp]
    split
    · simp
    · split
      · simp
      · exact ih
end Go.H
end
section
namespace Go.Proofs.Ytcmicdcikechkaa
open Go.RowKit Go.H
set_option maxHeartbeats 2000000
set_option maxRecDepth 100000
theorem pairs_next {c c' : Nat → Nat} {r rn rm : Nat} {w w' : World} {v : Value} {L : List KV} (ho : Owners r rn rm) (h : PairsAt (Dt c) w v L) (hf : Fr (fun b => c b = r ∨ c b = rn ∨ c b = rm) w w') (ha : Ag w.heap.size c c') : PairsAt (Dt c') w' v L :=
  ((h.mono (F' := fun b => c b = 0 ∧ b < w.heap.size) (fun b hb hl => ⟨hb, hl⟩)).fr hf (fun b hb e => by rcases e with e | e | e; exact ho.r0 (e.symm.trans hb.1); exact ho.n0 (e.symm.trans hb.1); exact ho.m0 (e.symm.trans hb.1))).mono (fun b hb _ => (ha b hb.2).trans hb.1)
theorem pairs_move {c c' : Nat → Nat} {w w' : World} {v : Value} {L : List KV} (h : PairsAt (Dt c) w v L) (hf : Fr C0 w w') (ha : Ag w.heap.size c c') : PairsAt (Dt c') w' v L :=
  (h.mono (F' := Dt c') (fun b hb hl => (ha b hl).trans hb)).fr0 hf
structure FuA (c0 : Nat → Nat) (w0 : World) (r rn rm tp k : Nat) (w : World) (c : Nat → Nat) (Z : TSt) : Prop where
  st : Stg c0 w0 r rn rm c w tp Z 0
  num : Z.S.num ≤ k
  len : (rootL Z.now).length ≤ k
theorem FuA.fr0 {c0 : Nat → Nat} {w0 : World} {r rn rm tp k : Nat} {w w' : World} {c : Nat → Nat} {Z : TSt} (h : FuA c0 w0 r rn rm tp k w c Z) (hf : Fr C0 w w') : FuA c0 w0 r rn rm tp k w' c Z := ⟨h.st.fr0 hf, h.num, h.len⟩
structure FuB (c0 : Nat → Nat) (w0 : World) (r rn rm tp k : Nat) (v : Value) (w : World) (c : Nat → Nat) (Z : TSt) : Prop where
  a : FuA c0 w0 r rn rm tp k w c Z
  row : PairsAt (Dt c) w v (rootL Z.now)
theorem FuB.fr0 {c0 : Nat → Nat} {w0 : World} {r rn rm tp k : Nat} {v : Value} {w w' : World} {c : Nat → Nat} {Z : TSt} (h : FuB c0 w0 r rn rm tp k v w c Z) (hf : Fr C0 w w') : FuB c0 w0 r rn rm tp k v w' c Z := ⟨h.a.fr0 hf, h.row.fr0 hf⟩
theorem FuB.le {c0 : Nat → Nat} {w0 : World} {r rn rm tp k k' : Nat} {v : Value} {w : World} {c : Nat → Nat} {Z : TSt} (h : FuB c0 w0 r rn rm tp k v w c Z) (hk : k ≤ k') : FuB c0 w0 r rn rm tp k' v w c Z := ⟨⟨h.a.st, Nat.le_trans h.a.num hk, Nat.le_trans h.a.len hk⟩, h.row⟩
theorem fu_put {c0 : Nat → Nat} {w0 : World} {r rn rm tp k : Nat} {v : Value} {w : World} {c : Nat → Nat} {Z : TSt} {kv vv : Value} {x : KV} (ho : Owners r rn rm) (hn : ∀ b, c0 b ≠ r ∧ c0 b ≠ rn ∧ c0 b ≠ rm) (h : FuB c0 w0 r rn rm tp k v w c Z) (hk : k < 200) (h1 : BytesAt (Dt c) w kv x.1) (h2 : BytesAt (Dt c) w vv x.2) (hw : wrong x.1 x.2 = 0) :
    Calls Try.prog 8 #[.pointer (some ⟨tp, 0, none⟩), kv, vv] w fun e w' =>
      (e = .returned (.int .i64 21) ∧ Hid (Fr C0 w w' ∧ ¬ 2 * rootD Z.now + 1 ≤ (Z.S.pages - Z.S.state.length) - rootDirty Z.now)) ∨
      (e = .returned (.int .i64 0) ∧ Hid (∃ c' Z', FuA c0 w0 r rn rm tp (k + 1) w' c' Z' ∧ rootL Z'.now = putL x (rootL Z.now) ∧ PairsAt (Dt c') w' v (rootL Z.now) ∧ BytesAt (Dt c') w' kv x.1 ∧ BytesAt (Dt c') w' vv x.2)) := by
  refine (put_at ho h.a.st.tr h1 h2 hw (by have := h.a.len; omega)).mono ?_
  rintro e w' (⟨rfl, f, o', e1, e2, e3, e4⟩ | ⟨rfl, f, c', o', g', ag, t, e1⟩)
  · refine .inl ⟨rfl, Lib.hid ⟨f, ?_⟩⟩
    omega
  · have f' : Fr (fun b => c b = r ∨ c b = rn ∨ c b = rm) w w' := f.mono (fun b _ e => .inl e)
    refine .inr ⟨rfl, Lib.hid ⟨c', _, ⟨h.a.st.next hn f' ag t, by have := h.a.num; exact Nat.le_succ_of_le this, ?_⟩, e1, pairs_next ho h.row f' ag, data_next ho h1 f' ag, data_next ho h2 f' ag⟩⟩
    show (rootL o').length ≤ _
    rw [e1, putL_length h.a.st.tr.bk.sn]
    have := h.a.len
    split <;> omega
theorem fu_row {c0 : Nat → Nat} {w0 : World} {r rn rm tp k : Nat} {v : Value} {w w' : World} {c : Nat → Nat} {Z : TSt} {L : List KV} (h : FuA c0 w0 r rn rm tp k w c Z) (e : rootL Z.now = L) (hf : Fr C0 w w') (hr : PairsAt (fun b => Dt c b ∨ w.heap.size ≤ b) w' v L) : FuB c0 w0 r rn rm tp k v w' c Z :=
  ⟨h.fr0 hf, by rw [e]; exact hr.mono (fun b hb _ => hb.elim id (fun g => h.st.tr.cl b g))⟩
theorem fu_range {c0 : Nat → Nat} {w0 : World} {r rn rm tp k : Nat} {v : Value} {w : World} {c : Nat → Nat} {Z : TSt} (h : FuB c0 w0 r rn rm tp k v w c Z) (hk : k ≤ 200) :
    Calls Try.prog 9 #[.pointer (some ⟨tp, 0, none⟩), .slice none 0 0, .slice none 0 0, .int .i64 999] w fun e w' => ∃ A cp, e = .returned (.tuple #[.slice A (rootL Z.now).length cp, .int .i64 0]) ∧ Hid (∃ c', FuB c0 w0 r rn rm tp k v w' c' Z ∧ PairsAt (fun _ => True) w' (.slice A (rootL Z.now).length cp) (rootL Z.now)) := by
  obtain ⟨q, hq1, hq2, hq3⟩ := own_many h.a.st.tr.cl [r, rn, rm]
  refine (range_at (n := 999) hq2 (hq3 r (by simp)) (hq3 rn (by simp)) hq1 (by omega) h.a.st.tr sl_nil sl_nil (by simp) (by simp)).mono ?_
  rintro e w' ⟨f, v', c', rfl, ag, cl, o⟩
  have hl : (rangeL [] [] (rootL Z.now)).take 999 = rootL Z.now := by
    have := h.a.len
    rw [rangeL_all, List.take_of_length_le (by omega)]
  rw [hl] at o
  obtain ⟨A, cp, rfl, -⟩ := o.form
  exact ⟨A, cp, rfl, Lib.hid ⟨c', ⟨⟨h.a.st.move f ag cl, h.a.num, h.a.len⟩, pairs_move h.row f ag⟩, OutAt.pairs o (fun _ _ _ => trivial)⟩⟩
theorem fu_commit {c0 : Nat → Nat} {w0 : World} {r rn rm tp k : Nat} {v : Value} {w : World} {c : Nat → Nat} {Z : TSt} (ho : Owners r rn rm) (hn : ∀ b, c0 b ≠ r ∧ c0 b ≠ rn ∧ c0 b ≠ rm) (h : FuB c0 w0 r rn rm tp k v w c Z) (hk : k ≤ 200) :
    Calls Try.prog 17 #[.pointer (some ⟨tp, 0, none⟩)] w fun e w' => e = .returned (.int .i64 0) ∧ Hid (∃ c' Z', rootL Z'.now = rootL Z.now ∧ FuB c0 w0 r rn rm tp (k + 1) v w' c' Z') := by
  refine (commit_at ho h.a.st.tr (by have := h.a.num; omega)).mono ?_
  rintro e w' ⟨rfl, f, c', Z', ag, t, e1, -, -, -, -, e2, -⟩
  exact ⟨rfl, Lib.hid ⟨c', Z', e1, ⟨h.a.st.next hn f ag t, by have := h.a.num; omega, by rw [e1]; have := h.a.len; omega⟩, by rw [e1]; exact pairs_next ho h.row f ag⟩⟩
end Go.Proofs.Ytcmicdcikechkaa
end
