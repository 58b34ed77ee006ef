import Derived.Test.YtcmicdcikechkaaGreatKeeps12
import Derived.Test.YtcmicdcikechkaaGreatKeeps36
import Derived.Test.YtcmicdcikechkaaGreatKeeps17
import Derived.Test.YtcmicdcikechkaaGreatKeeps39
import Derived.Test.YtcmicdcikechkaaGreatKeeps38
import Derived.Test.YtcmicdcikechkaaGreatKeeps47
set_option linter.all false
namespace Go.H
section
def atN (k : List UInt8) : List KV → Nat
 | [] => 0
 | y :: l => if bcmp y.1 k < 0 then atN k l + 1 else 0
def atB (k : List UInt8) : List KV → Bool
 | [] => false
 | y :: l => if bcmp y.1 k < 0 then atB k l else decide (y.1 = k)
theorem zia (k : List UInt8) : ∀ l : List KV, atN k l ≤ l.length
 | [] => Nat.le_refl _
 | y :: l => by
   have := zia k l
   simp only [atN, List.length_cons]
   split <;> omega
theorem zib (k : List UInt8) : ∀ l : List KV, atB k l = true → atN k l < l.length
 | [], h => by simp [atB] at h
 | y :: l, h => by
   simp only [atN, atB, List.length_cons] at h ⊢
   split at h
   · rename_i e
     rw [if_pos e]
     have := zib k l h
     omega
   · rename_i e
     rw [if_neg e]
     omega
theorem zic (x : KV) : ∀ l : List KV, putL x l = l.take (atN x.1 l) ++ x :: l.drop (atN x.1 l + (atB x.1 l).toNat)
 | [] => rfl
 | y :: l => by
   have hs := z6b x.1 y.1
   simp only [putL, atN, atB]
   by_cases h : bcmp y.1 x.1 < 0
   · have h1 : ¬ bcmp x.1 y.1 < 0 := by omega
     have h2 : ¬ bcmp x.1 y.1 = 0 := by omega
     rw [if_neg h1, if_neg h2, if_pos h, if_pos h, zic x l]
     have e : ∀ n m : Nat, n + 1 + m = (n + m) + 1 := fun n m => by omega
     rw [e, List.take_succ_cons, List.drop_succ_cons]
     rfl
   · rw [if_neg h, if_neg h]
     by_cases h2 : bcmp x.1 y.1 = 0
     · have e := z6a h2
       have e1 : decide (y.1 = x.1) = true := decide_eq_true e.symm
       rw [if_neg (by omega), if_pos h2, e1]
       simp
     · have h3 : bcmp x.1 y.1 < 0 := by omega
       have e1 : decide (y.1 = x.1) = false := decide_eq_false fun e => by rw [e, z69] at h2; exact h2 rfl
       rw [if_pos h3, e1]
       simp
theorem zid {k : List UInt8} {l : List KV} {i : Nat} (hi : i < l.length) (h : atN k l = i + atN k (l.drop i)) (hl : bcmp l[i].1 k < 0) : atN k l = (i + 1) + atN k (l.drop (i + 1)) := by
 rw [h, List.drop_eq_getElem_cons hi]
 simp only [atN, if_pos hl]
 omega
theorem zie {k : List UInt8} {l : List KV} {i : Nat} (hi : i < l.length) (h : atB k l = atB k (l.drop i)) (hl : bcmp l[i].1 k < 0) : atB k l = atB k (l.drop (i + 1)) := by
 rw [h, List.drop_eq_getElem_cons hi]
 simp only [atB, if_pos hl]
theorem zif {k : List UInt8} {l : List KV} {i : Nat} (hi : i < l.length) (h : atN k l = i + atN k (l.drop i)) (h2 : atB k l = atB k (l.drop i)) (hl : ¬ bcmp l[i].1 k < 0) : atN k l = i ∧ atB k l = decide (l[i].1 = k) := by
 rw [h, h2, List.drop_eq_getElem_cons hi]
 simp only [atN, atB, if_neg hl]
 exact ⟨rfl, trivial⟩
theorem zig {k : List UInt8} {l : List KV} (h : atN k l = l.length + atN k (l.drop l.length)) (h2 : atB k l = atB k (l.drop l.length)) : atN k l = l.length ∧ atB k l = false := by
 rw [h, h2, List.drop_length]
 exact ⟨rfl, rfl⟩
theorem zih : ∀ a b : List UInt8, Op.bytesLess a b = decide (bcmp a b < 0)
 | _, [] => by
   rename_i a
   cases a <;> simp [Op.bytesLess, bcmp]
 | [], _ :: _ => by simp [Op.bytesLess, bcmp]
 | a :: az, b :: bs => by
   simp only [Op.bytesLess, bcmp, zih az bs]
   by_cases h : a < b
   · simp [h]
   · by_cases h2 : b < a
     · have : (a == b) = false := by
        apply beq_false_of_ne
        rintro rfl
        exact h h2
       simp [h, h2, this]
     · have : a = b := UInt8.le_antisymm (UInt8.not_lt.1 h2) (UInt8.not_lt.1 h)
       subst this
       simp [h]
end
end Go.H
namespace Go.Proofs.YtcmicdcikechkaaGreat
open Go.RowKit Go.H
set_option maxHeartbeats 2000000
set_option maxRecDepth 100000
section
theorem str3 {F G : Nat → Prop} {w : World} {u v : Value} {a b : List UInt8} (ha : BytesAt F w u a) (hb : BytesAt G w v b) : ∃ x y : ByteArray, Hid (∀ w_, Fr C0 w w_ → (convert 30 9 u).run Tryz.prog w_ = .ok (.string x) w_) ∧ Hid (∀ w_, Fr C0 w w_ → (convert 30 9 v).run Tryz.prog w_ = .ok (.string y) w_) ∧ Hid ((x.toList == y.toList) = decide (a = b)) ∧ Hid (Op.bytesLess x.toList y.toList = decide (bcmp a b < 0)) :=
 ⟨_, _, zhd fun w_ hf => z2s (ha.fr0 hf), zhd fun w_ hf => z2s (hb.fr0 hf), zhd (by rw [ByteArray.toList_eq, ByteArray.toList_eq]; simp [z2x]), zhd (by rw [ByteArray.toList_eq, ByteArray.toList_eq, ← zih])⟩
theorem zii {F G : Nat → Prop} {w : World} {u v : Value} {l : List KV} {key : List UInt8} (hl : PairsAt F w u l) (hk : BytesAt G w v key) :
 Calls Tryz.prog 33 #[u, v] w fun e w' => e = .returned (.tuple #[.int .i64 (atN key l : Int), .bool (atB key l)]) ∧ Fr C0 w w' := by
 have HA := zhd hl
 have HB := zhd hk
 obtain ⟨A, ca, rfl, ha1, ha2⟩ := hl.form
 obtain ⟨B, cb, rfl, -⟩ := hk.form
 clear hl hk
 unfold maxLen at ha2
 go_enter Tryz.func33, Tryz.ntmps33
 go_wp2
 go_loopw [6] (fun i wr => ∃ k : Nat, k ≤ l.length ∧ i = .int .i64 (k : Int) ∧ Fr C0 w wr ∧ Hid (atN key l = k + atN key (l.drop k) ∧ atB key l = atB key (l.drop k))) (fun i _ => l.length - (intOf i).toNat)
 case atStart => exact ⟨0, Nat.zero_le _, rfl, Fr.refl _ _, zhd ⟨by simp, by simp⟩⟩
 case round =>
  obtain ⟨k, hk, rfl, hf, HI⟩ := hrel
  have HF := zhd hf
  clear hf
  by_cases hlt : k < l.length
  · obtain ⟨ga, oa, kva, vva, rfl, a0, a1, a2, a3, a4⟩ := (HA.out.fr0 HF.out).at_ k hlt
    obtain ⟨x1, y1, sa3, sb3, E1, E2⟩ := str3 a3 (HB.out.fr0 HF.out)
    obtain ⟨_, _, rfl, -⟩ := a3.form
    clear a3 a4
    by_cases hb : bcmp l[k].1 key < 0
    · have e2 := E2.out; rw [decide_eq_true hb] at e2
      have HBL := zhd hb
      clear hb
      go_wp2_with fail
      refine z1r (Fr C0 wr) [] (by kernel_rfl) ?_
      have hSw0 : (Fr C0 wr) _ := (Fr.refl C0 wr).drew
      refine tk 0 hSw0 ?_
      refine tk 1 hSw0 ?_
      refine tk 2 hSw0 ?_
      refine tk 3 hSw0 ?_
      refine tk 4 hSw0 ?_ (hy := by intro w_ hS_; have c0 := hS_.cell0 a0; have c1 := hS_.cell0 a1; have c2 := hS_.cell0 a2; first | (go_simp; done) | (go_simp; with_reducible rfl))
      refine tk 5 hSw0 ?_ (hy := by intro w_ hS_; have k3 := sa3.out _ hS_; have l3 := sb3.out _ hS_; first | (go_simp; done) | (go_simp; with_reducible rfl))
      refine tk 6 hSw0 ?_
      refine tk 7 hSw0 ?_ (hy := by intro w_ hS_; have k3 := sa3.out _ hS_; have l3 := sb3.out _ hS_; first | (go_simp; done) | (go_simp; with_reducible rfl))
      refine tk 8 hSw0 ?_
      refine z1q (by kernel_rfl) ?_ _
      go_wp2
      go_roundw
      case rel => exact ⟨k + 1, by omega, by go_num, HF.out.drew, zhd ⟨zid hlt HI.out.1 HBL.out, zie hlt HI.out.2 HBL.out⟩⟩
      case measure => simp [intOf]; omega
    · have e2 := E2.out; rw [decide_eq_false hb] at e2
      have HBL := zhd (zif hlt HI.out.1 HI.out.2 hb)
      clear hb
      go_wp2_with fail
      refine z1r (Fr C0 wr) [] (by kernel_rfl) ?_
      have hSw0 : (Fr C0 wr) _ := (Fr.refl C0 wr).drew
      refine tk 0 hSw0 ?_
      refine tk 1 hSw0 ?_
      refine tk 2 hSw0 ?_
      refine tk 3 hSw0 ?_
      refine tk 4 hSw0 ?_ (hy := by intro w_ hS_; have c0 := hS_.cell0 a0; have c1 := hS_.cell0 a1; have c2 := hS_.cell0 a2; first | (go_simp; done) | (go_simp; with_reducible rfl))
      refine tk 5 hSw0 ?_ (hy := by intro w_ hS_; have k3 := sa3.out _ hS_; have l3 := sb3.out _ hS_; first | (go_simp; done) | (go_simp; with_reducible rfl))
      refine tk 6 hSw0 ?_
      refine tk 7 hSw0 ?_ (hy := by intro w_ hS_; have k3 := sa3.out _ hS_; have l3 := sb3.out _ hS_; first | (go_simp; done) | (go_simp; with_reducible rfl))
      refine tk 8 hSw0 ?_
      refine z1q (by kernel_rfl) ?_ _
      go_wp2_with fail
      refine z1r (Fr C0 wr) [] (by kernel_rfl) ?_
      have hSw0 : (Fr C0 wr) _ := (Fr.refl C0 wr).drew.drew
      refine tk 0 hSw0 ?_
      refine tk 1 hSw0 ?_
      refine tk 2 hSw0 ?_
      refine tk 3 hSw0 ?_
      refine tk 4 hSw0 ?_
      refine tk 5 hSw0 ?_ (hy := by intro w_ hS_; have c0 := hS_.cell0 a0; have c1 := hS_.cell0 a1; have c2 := hS_.cell0 a2; first | (go_simp; done) | (go_simp; with_reducible rfl))
      refine tk 6 hSw0 ?_ (hy := by intro w_ hS_; have k3 := sa3.out _ hS_; have l3 := sb3.out _ hS_; first | (go_simp; done) | (go_simp; with_reducible rfl))
      refine tk 7 hSw0 ?_
      refine tk 8 hSw0 ?_ (hy := by intro w_ hS_; have k3 := sa3.out _ hS_; have l3 := sb3.out _ hS_; first | (go_simp; done) | (go_simp; with_reducible rfl))
      refine tk 9 hSw0 ?_
      refine tk 10 hSw0 ?_
      refine tk 11 hSw0 ?_
      refine z1q (by kernel_rfl) ?_ _
      go_wp2
      go_ret2
      refine ⟨?_, HF.out.drew.drew⟩
      rw [HBL.out.1, HBL.out.2, E1.out]
      rfl
  · obtain rfl : k = l.length := by omega
    have HE := zhd (zig HI.out.1 HI.out.2)
    go_wp2
    go_ret2
    refine ⟨?_, HF.out⟩
    rw [HE.out.1, HE.out.2]
    rfl
theorem PairCells.take_ {F : Nat → Prop} {w : World} : ∀ {xs : List Value} {l : List KV} (n : Nat), PairCells F w xs l → PairCells F w (xs.take (n * 3)) (l.take n)
 | _, _, n, .nil => by simp; exact .nil
 | _, _, 0, .cons h1 h2 h3 => by simp; exact .nil
 | _, _, n + 1, .cons h1 h2 h3 => by
   rw [show (n + 1) * 3 = n * 3 + 1 + 1 + 1 by omega]
   simp only [List.take_succ_cons]
   exact .cons h1 h2 (take_ n h3)
theorem PairCells.drop_ {F : Nat → Prop} {w : World} : ∀ {xs : List Value} {l : List KV} (n : Nat), PairCells F w xs l → PairCells F w (xs.drop (n * 3)) (l.drop n)
 | _, _, n, .nil => by simp; exact .nil
 | _, _, 0, .cons h1 h2 h3 => by simp; exact .cons h1 h2 h3
 | _, _, n + 1, .cons h1 h2 h3 => by
   rw [show (n + 1) * 3 = n * 3 + 1 + 1 + 1 by omega]
   simp only [List.drop_succ_cons]
   exact drop_ n h3
theorem zij {F : Nat → Prop} {w w2 w4 w5 w6 : World} {v2 v3 v4 v5 v6 : Value} {xs : List Value} {l : List KV} {x : KV} {N m i : Nat} (hc : PairCells F w xs l) (h2 : w.heap.size ≤ w2.heap.size) (f4 : Fr C0 w w4)
 (b3 : BytesAt (fun b => w2.heap.size ≤ b ∧ b < w4.heap.size) w4 v3 x.1) (b4 : BytesAt (fun b => w2.heap.size ≤ b ∧ b < w4.heap.size) w4 v4 x.2) (hv2 : ∀ b, v2.ownBlock = some b → w.heap.size ≤ b ∧ b < w2.heap.size)
 (f5 : Fr (fun b => v2.ownBlock = some b) w4 w5) (k5 : ∀ b, v5.ownBlock = some b → v2.ownBlock = some b ∨ w4.heap.size < b) (f6 : Fr (fun b => v5.ownBlock = some b) w5 w6) (o6 : w6.ownsRow w.heap.size 119 3 v6 m (xs.take (N * 3) ++ [.int .i64 0, v3, v4] ++ xs.drop (i * 3)))
 (hm : m = (putL x l).length) (hp : putL x l = l.take N ++ x :: l.drop i) : Fr C0 w w6 ∧ PairsAt (fun b => F b ∨ w.heap.size ≤ b) w6 v6 (putL x l) := by
 have s5 := f5.size
 have s4 := f4.size
 have k6 : ∀ b, v5.ownBlock = some b → w.heap.size ≤ b ∧ (b < w2.heap.size ∨ w4.heap.size < b) := fun b e => by
  rcases k5 b e with e | e
  · exact ⟨(hv2 b e).1, .inl (hv2 b e).2⟩
  · exact ⟨by omega, .inr e⟩
 have F6 : Fr C0 w w6 := (f4.trans f5 (fun b hb e => by have := (hv2 b e).1; omega)).trans f6 (fun b hb e => by have := (k6 b e).1; omega)
 refine ⟨F6, xs.take (N * 3) ++ [.int .i64 0, v3, v4] ++ xs.drop (i * 3), by rw [← hm]; exact Row.ofOwn o6 (fun b e => .inr (o6.lt b e).1), ?_⟩
 rw [hp, List.append_assoc]
 have old : PairCells (fun b => F b ∨ w.heap.size ≤ b) w6 xs l := (hc.fr F6 (fun _ _ k => k)).mono (fun b h _ => .inl h)
 have nw : ∀ {v : Value} {y : Bs}, BytesAt (fun b => w2.heap.size ≤ b ∧ b < w4.heap.size) w4 v y → BytesAt (fun b => F b ∨ w.heap.size ≤ b) w6 v y := fun h =>
  ((h.fr f5 (fun b hb e => by have := (hv2 b e).2; omega)).fr f6 (fun b hb e => by have := (k6 b e).2; omega)).mono (fun b hb _ => .inr (by omega))
 exact (PairCells.append (.cons (nw b3) (nw b4) (PairCells.drop_ i old))) (PairCells.take_ N old)
theorem zik {F : Nat → Prop} {w : World} {lv kv vv : Value} {l : List KV} {x : KV} (hl : PairsAt F w lv l) (hk : BytesAt F w kv x.1) (hv : BytesAt F w vv x.2) (h1 : x.1.length ≤ 100000) (h2 : x.2.length ≤ 100000) (hb : l.length ≤ 100000) :
 Calls Tryz.prog 25 #[lv, kv, vv] w fun e w' => ∃ A c, e = .returned (.slice A (putL x l).length c) ∧ Hid (Fr C0 w w' ∧ PairsAt (fun b => F b ∨ w.heap.size ≤ b) w' (.slice A (putL x l).length c) (putL x l)) := by
 have HP := zhd (zic x l)
 have HL := zhd hl
 have HK := zhd hk
 have HV := zhd hv
 have HAT := zhd (zii hl hk)
 obtain ⟨A, ca, rfl, ha1, ha2⟩ := hl.form
 obtain ⟨B, cb, rfl, -⟩ := hk.form
 obtain ⟨D, cd, rfl, -⟩ := hv.form
 obtain ⟨xs, hr, hc⟩ := hl
 have HR := zhd (hr.mono (F' := fun b => b < w.heap.size) (fun _ _ h => h))
 have HC := zhd hc
 have H1 := zhd (zfi hc)
 have hN := zia x.1 l
 have HLT := zhd (zib x.1 l)
 unfold maxLen at ha2
 have HA2 := zhd ha1
 clear hk hv hr hc
 generalize hn : atN x.1 l = N at *
 clear hn
 cases hbb : atB x.1 l
 · skip
   have hi : N ≤ l.length := by first | exact hN | exact HLT.out hbb
   rw [hbb] at HP HAT
   have HPE : Hid (putL x l = l.take N ++ x :: l.drop N) := zhd HP.out
   have HPL : Hid ((putL x l).length = N + 1 + (l.length - N)) := zhd (by rw [HPE.out]; simp; omega)
   clear hbb HP HLT
   go_enter Tryz.func25, Tryz.ntmps25
   go_wp2_with fail
   refine HAT.out.mono ?_
   rintro e w1 ⟨rfl, f1⟩
   have F1 := zhd f1
   have hs1 := f1.size
   clear f1
   go_wp2_with (at_builtin; go_must (refine z0l z2m rfl _ _ rfl (v := .slice none 0 0) (xv := .slice A N ca) rfl rfl (B := w.heap.size) (World.ownsRow_nil _ _ _ _) ((HR.out.take hN).fr0 F1.out) (z0p H1.out) (by unfold maxLen; omega) (by omega) (by omega) ?_); intro v2 w2 o2 f2 k2 nil2; rw [Nat.zero_add] at o2; obtain ⟨A2, c2, rfl, -⟩ := z0o o2)
   have F2 : Hid (Fr C0 w w2) := zhd (F1.out.trans f2 (fun b _ h => by simp [Value.ownBlock] at h))
   have O2 := zhd o2
   have hs2 := F2.out.size
   clear o2 f2 k2 nil2
   refine (zex (HK.out.fr0 F2.out) h1).mono ?_
   rintro e w3 ⟨v3, rfl, f3, o3⟩
   have F3 := zhd (F2.out.trans0 f3)
   have O3 := zhd o3
   have O23 := zhd (z0m O2.out f3 (fun _ _ h => h))
   obtain ⟨A3, c3, rfl, -⟩ := z0o o3
   have hs3 := f3.size
   clear o3 f3
   go_wp2_with fail
   refine (zex (HV.out.fr0 F3.out) h2).mono ?_
   rintro e w4 ⟨v4, rfl, f4, o4⟩
   have F4 := zhd (F3.out.trans0 f4)
   have hs4 := f4.size
   have O24 := zhd (z0m O23.out f4 (fun _ _ h => h))
   have B3 := zhd ((BytesAt.ofOwn O3.out (F := fun b => w2.heap.size ≤ b) (fun b e => (O3.out.lt b e).1)).fr0 f4)
   have B4 := zhd (BytesAt.ofOwn o4 (F := fun b => w2.heap.size ≤ b) (fun b e => by have := (o4.lt b e).1; omega))
   obtain ⟨A4, c4, rfl, -⟩ := z0o o4
   clear o4 f4
   go_wp2_with (at_builtin; first
    | (refine z0l z2m rfl _ _ rfl (v := .slice A2 N c2) (xv := .slice (some ⟨w4.heap.size, 0, none⟩) 1 1) rfl rfl (B := w.heap.size) (z0m O24.out ((Fr.refl C0 w4).alloc _) (fun _ _ h => h)) (Row.ofBlock (F := fun _ => True) (heap_alloc_new _ _) trivial (by unfold maxLen; omega) rfl) (by simp [Value.oneCell']) (by unfold maxLen; omega) (by omega) (Nat.le_trans (show w.heap.size ≤ w4.heap.size by omega) ((Fr.refl C0 w4).alloc _).size) ?_
       intro v5 w5 o5 f5 k5 nil5
       obtain ⟨A5, c5, rfl, -⟩ := z0o o5
       have O5 := zhd o5
       have K5 := zhd k5
       have F5 := zhd (((Fr.refl (fun b => (Value.slice A2 N c2).ownBlock = some b) w4).alloc (.cells #[.int .i64 0, .slice A3 x.1.length c3, .slice A4 x.2.length c4] 119)).trans f5 (fun b _ h => h))
       have F05 := zhd (F4.out.transO F5.out (fun b e => (O24.out.lt b e).1))
       have hs5 := F05.out.size
       clear o5 f5 k5 nil5)
    | (refine z0l z2m rfl _ _ rfl (v := .slice A5 (N + 1) c5) (xv := .slice (if ca = N then A else A.map (·.add (N * 3))) (l.length - N) (ca - N)) rfl rfl (B := w.heap.size) O5.out ((HR.out.drop hi).fr0 F05.out) (z0q H1.out) (by unfold maxLen; omega) (by omega) hs5 ?_
       intro v6 w6 o6 f6 k6 nil6
       obtain ⟨A6, c6, rfl, -⟩ := z0o o6))
   all_goals
    have J := zij HC.out hs2 F4.out (B3.out.mono (fun b h hl => ⟨h, hl⟩)) (B4.out.mono (fun b h hl => ⟨h, hl⟩)) (fun b e => O2.out.lt b e) F5.out (fun b e => (K5.out b e).imp id (fun h => by simp at h; omega)) f6 o6 HPL.out.symm HPE.out
    rw [HPL.out]
    go_ret
    refine ⟨A6, c6, ?_, zhd J⟩
    first
     | rfl
     | (rw [show N + 1 + (l.length - (N + 1)) = l.length by omega]; rfl)
 · skip
   have hi : (N + 1) ≤ l.length := by first | exact hN | exact HLT.out hbb
   rw [hbb] at HP HAT
   have HPE : Hid (putL x l = l.take N ++ x :: l.drop (N + 1)) := zhd HP.out
   have HPL : Hid ((putL x l).length = N + 1 + (l.length - (N + 1))) := zhd (by rw [HPE.out]; simp; omega)
   clear hbb HP HLT
   go_enter Tryz.func25, Tryz.ntmps25
   go_wp2_with fail
   refine HAT.out.mono ?_
   rintro e w1 ⟨rfl, f1⟩
   have F1 := zhd f1
   have hs1 := f1.size
   clear f1
   go_wp2_with (at_builtin; go_must (refine z0l z2m rfl _ _ rfl (v := .slice none 0 0) (xv := .slice A N ca) rfl rfl (B := w.heap.size) (World.ownsRow_nil _ _ _ _) ((HR.out.take hN).fr0 F1.out) (z0p H1.out) (by unfold maxLen; omega) (by omega) (by omega) ?_); intro v2 w2 o2 f2 k2 nil2; rw [Nat.zero_add] at o2; obtain ⟨A2, c2, rfl, -⟩ := z0o o2)
   have F2 : Hid (Fr C0 w w2) := zhd (F1.out.trans f2 (fun b _ h => by simp [Value.ownBlock] at h))
   have O2 := zhd o2
   have hs2 := F2.out.size
   clear o2 f2 k2 nil2
   refine (zex (HK.out.fr0 F2.out) h1).mono ?_
   rintro e w3 ⟨v3, rfl, f3, o3⟩
   have F3 := zhd (F2.out.trans0 f3)
   have O3 := zhd o3
   have O23 := zhd (z0m O2.out f3 (fun _ _ h => h))
   obtain ⟨A3, c3, rfl, -⟩ := z0o o3
   have hs3 := f3.size
   clear o3 f3
   go_wp2_with fail
   refine (zex (HV.out.fr0 F3.out) h2).mono ?_
   rintro e w4 ⟨v4, rfl, f4, o4⟩
   have F4 := zhd (F3.out.trans0 f4)
   have hs4 := f4.size
   have O24 := zhd (z0m O23.out f4 (fun _ _ h => h))
   have B3 := zhd ((BytesAt.ofOwn O3.out (F := fun b => w2.heap.size ≤ b) (fun b e => (O3.out.lt b e).1)).fr0 f4)
   have B4 := zhd (BytesAt.ofOwn o4 (F := fun b => w2.heap.size ≤ b) (fun b e => by have := (o4.lt b e).1; omega))
   obtain ⟨A4, c4, rfl, -⟩ := z0o o4
   clear o4 f4
   go_wp2_with (at_builtin; first
    | (refine z0l z2m rfl _ _ rfl (v := .slice A2 N c2) (xv := .slice (some ⟨w4.heap.size, 0, none⟩) 1 1) rfl rfl (B := w.heap.size) (z0m O24.out ((Fr.refl C0 w4).alloc _) (fun _ _ h => h)) (Row.ofBlock (F := fun _ => True) (heap_alloc_new _ _) trivial (by unfold maxLen; omega) rfl) (by simp [Value.oneCell']) (by unfold maxLen; omega) (by omega) (Nat.le_trans (show w.heap.size ≤ w4.heap.size by omega) ((Fr.refl C0 w4).alloc _).size) ?_
       intro v5 w5 o5 f5 k5 nil5
       obtain ⟨A5, c5, rfl, -⟩ := z0o o5
       have O5 := zhd o5
       have K5 := zhd k5
       have F5 := zhd (((Fr.refl (fun b => (Value.slice A2 N c2).ownBlock = some b) w4).alloc (.cells #[.int .i64 0, .slice A3 x.1.length c3, .slice A4 x.2.length c4] 119)).trans f5 (fun b _ h => h))
       have F05 := zhd (F4.out.transO F5.out (fun b e => (O24.out.lt b e).1))
       have hs5 := F05.out.size
       clear o5 f5 k5 nil5)
    | (refine z0l z2m rfl _ _ rfl (v := .slice A5 (N + 1) c5) (xv := .slice (if ca = (N + 1) then A else A.map (·.add ((N + 1) * 3))) (l.length - (N + 1)) (ca - (N + 1))) rfl rfl (B := w.heap.size) O5.out ((HR.out.drop hi).fr0 F05.out) (z0q H1.out) (by unfold maxLen; omega) (by omega) hs5 ?_
       intro v6 w6 o6 f6 k6 nil6
       obtain ⟨A6, c6, rfl, -⟩ := z0o o6))
   all_goals
    have J := zij HC.out hs2 F4.out (B3.out.mono (fun b h hl => ⟨h, hl⟩)) (B4.out.mono (fun b h hl => ⟨h, hl⟩)) (fun b e => O2.out.lt b e) F5.out (fun b e => (K5.out b e).imp id (fun h => by simp at h; omega)) f6 o6 HPL.out.symm HPE.out
    rw [HPL.out]
    go_ret
    refine ⟨A6, c6, ?_, zhd J⟩
    first
     | rfl
     | (rw [show N + 1 + (l.length - (N + 1)) = l.length by omega]; rfl)
end
section
theorem TreeAt.shape {c : Nat → Nat} {r rn rm : Nat} {w : World} {tp : Nat} {Z : TSt} {k : Nat} (h : TreeAt c r rn rm w tp Z k) : RootSh Z.now := by
 obtain ⟨st, lm, km, nr, lr, gv, ov, sn, h⟩ := h
 have := h.now.sh
 cases hz : Z.now with
 | none => trivial
 | some p => rw [hz] at this; exact this
end
end Go.Proofs.YtcmicdcikechkaaGreat
namespace Go.H
section
theorem zil (l : List KV) : rangeL [] [] l = l := List.filter_eq_self.2 fun x _ => by simp [inR]
end
section
def ordL (x : List UInt8) (l : List KV) : List KV := if x = [] then l else putL (x, x) l
def foldO (ks : List (List UInt8)) : List KV := ks.foldl (fun l x => ordL x l) []
end
end Go.H
namespace Go.Proofs.YtcmicdcikechkaaGreat
open Go.RowKit Go.H
set_option maxHeartbeats 1000000
set_option maxRecDepth 100000
section
def wRoot : Root → Value
 | none => .nilIface
 | some (_, t) => wPage t.id
structure LooseIn (c : Nat → Nat) (r rn : Nat) (w : World) (d m : Nat) (ov : Value) (D : DSt) (X : Prop) (num : Nat) (o : Root) : Prop where
 cl : Cl w c
 disk : DiskA (Dt c) w d m ov D
 od : c d = r
 om : c m = r
 oov : ∀ b, ov.ownBlock = some b → c b = r
 dm : d ≠ m
 ovm : ∀ b, ov.ownBlock = some b → b ≠ m
 opn : D.opn = []
 ok : DOk D
 after : D.after < 1
 b1 : 3 ≤ D.blocks
 b2 : D.blocks ≤ 4096
 nle : num ≤ 1000000
 head : HeadsOk D.read num (rootId o)
 root : RootAt c rn w (pgs D) D.blocks X o (wRoot o)
 page : rootPage o
 so : Sorted (rootL o)
 one : ∀ id, rcnt (.pg id) o ≤ 1
 ln : (rootL o).length ≤ 90000
theorem Rep.wpage {c : Nat → Nat} {rn : Nat} {w : World} {pg : Nat → Option Bs} {N : Nat} {X : Prop} : ∀ {d : Nat} {t : T} {v : Value}, t.isPage → Rep c rn w pg N X d t v → v = wPage t.id
 | 0, _, _, _, h => h.elim
 | d + 1, .node (.page i) l ks, v, _, h => h.1
 | d + 1, .node (.mem n g o) l ks, v, hp, _ => hp.elim
theorem RootAt.wroot {c : Nat → Nat} {rn : Nat} {w : World} {pg : Nat → Option Bs} {N : Nat} {X : Prop} {o : Root} {v : Value} (hp : rootPage o) (h : RootAt c rn w pg N X o v) : RootAt c rn w pg N X o (wRoot o) := by
 cases o with
 | none => exact rfl
 | some p => exact ⟨by have := Rep.wpage hp h.1; subst this; exact h.1, h.2⟩
theorem TreeIn.loose {c : Nat → Nat} {r rn rm : Nat} {w : World} {tp st lm km sm d m : Nat} {nr lr gv ov ov' : Value} {Z : TSt} {k : Nat} {sn : List Value} (h : TreeIn c r rn rm w tp st lm km nr lr gv ov Z k sn) (haf : Z.D.after < 1) (s : StoreIn c r w st sm d m ov' Z.S Z.D) (h1 : 1 ≤ Z.S.pages) (h2 : Z.S.pages ≤ 4000) : LooseIn c r rn w d m ov' Z.D False Z.S.num Z.last := by
 have ha := h.hd.alive
 refine ⟨h.cl, s.disk, s.od, s.om, s.oov, s.d_m, s.ov_m, h.bk.opn, h.bk.ok, haf, by have := ha.size; omega, by have := ha.size; omega, h.bk.num, h.bk.head, RootAt.wroot h.bk.lp h.last, h.bk.lp, h.bk.sl, fun id => ?_, h.bk.bl⟩
 rw [h.bk.b2]; split <;> omega
theorem TreeAt.loose {c : Nat → Nat} {r rn rm : Nat} {w : World} {tp : Nat} {Z : TSt} {k : Nat} (h : TreeAt c r rn rm w tp Z k) (haf : Z.D.after < 1) (h1 : 1 ≤ Z.S.pages) (h2 : Z.S.pages ≤ 4000) : Z.D.down = false ∧ Z.D.blocks = Z.S.pages + 2 ∧ ∃ m ov, LooseIn c r rn w Z.S.dk m ov Z.D False Z.S.num Z.last := by
 obtain ⟨st, lm, km, nr, lr, gv, ov, sn, h⟩ := h
 have ha := h.hd.alive
 obtain ⟨sm, d, m, ov', s⟩ := h.hd.store
 have hd := s.dk
 subst hd
 exact ⟨ha.down, ha.size, m, ov', h.loose haf s h1 h2⟩
theorem zim {D D' : DSt} (ho : D.opn = []) (ho' : D'.opn = []) (hk : D'.kept = D.kept) (j : Nat) : D'.read j = D.read j := by
 unfold DSt.read DSt.good
 rw [ho, ho', hk]
theorem LooseIn.like {c c' : Nat → Nat} {r rn : Nat} {w w' : World} {d m : Nat} {ov ov' : Value} {D D' : DSt} {X : Prop} {num : Nat} {o : Root} (h : LooseIn c r rn w d m ov D X num o) (hd : DiskA (Dt c') w' d m ov' D') (hc : Cl w' c') (od : c' d = r) (om : c' m = r) (oov : ∀ b, ov'.ownBlock = some b → c' b = r) (ovm : ∀ b, ov'.ownBlock = some b → b ≠ m) (ho' : D'.opn = []) (hk : D'.kept = D.kept) (hb : D'.blocks = D.blocks) (haf : D'.after < 1) : LooseIn c' r rn w' d m ov' D' X num o := by
 have hr : ∀ j, D'.read j = D.read j := zim h.opn ho' hk
 have hp : pgs D' = pgs D := by funext j; unfold pgs; rw [hr]
 have hg : ∀ j, D'.good j = D.good j := fun j => by unfold DSt.good; rw [hk]
 refine ⟨hc, hd, od, om, oov, h.dm, ovm, ho', ⟨fun j => by rw [hg]; exact h.ok.good j, by rw [ho']; simp⟩, haf, by rw [hb]; exact h.b1, by rw [hb]; exact h.b2, h.nle, ?_, ?_, h.page, h.so, h.one, h.ln⟩
 · exact zdg h.head (hr 0) (hr 1)
 · rw [hp, hb]
   exact RootAt.pageW h.page h.root
theorem LooseIn.fr0 {c : Nat → Nat} {r rn : Nat} {w w' : World} {d m : Nat} {ov : Value} {D : DSt} {X : Prop} {num : Nat} {o : Root} (h : LooseIn c r rn w d m ov D X num o) (hf : Fr C0 w w') : LooseIn c r rn w' d m ov D X num o :=
 { h with cl := h.cl.mono hf.size, disk := h.disk.fr0 hf, root := h.root.fr0 hf }
theorem LooseIn.move {c c' : Nat → Nat} {r rn : Nat} {w w' : World} {d m : Nat} {ov : Value} {D : DSt} {X : Prop} {num : Nat} {o : Root} (h : LooseIn c r rn w d m ov D X num o) (hf : Fr C0 w w') (ha : Ag w.heap.size c c') (hc : Cl w' c') : LooseIn c' r rn w' d m ov D X num o := by
 have hdl : d < w.heap.size := (Array.getElem?_eq_some_iff.1 h.disk.blk).1
 have hml : m < w.heap.size := by obtain ⟨M, k1, _⟩ := h.disk.kept; exact k1.lt
 have hol : ∀ b, ov.ownBlock = some b → b < w.heap.size := fun b hb => by obtain ⟨xs, o, _⟩ := h.disk.opn; exact (o.lt b hb).2
 exact { h with cl := hc, disk := (DiskAt.ag h.disk ha).fr0 hf, root := (h.root.ag ha).fr0 hf, od := (ha _ hdl).trans h.od, om := (ha _ hml).trans h.om, oov := fun b hb => (ha _ (hol b hb)).trans (h.oov b hb) }
theorem LooseIn.open_ {c : Nat → Nat} {r rn rm : Nat} {w : World} {d m : Nat} {ov : Value} {D : DSt} {X : Prop} {num : Nat} {o : Root} (h : LooseIn c r rn w d m ov D X num o) (ho : Owners r rn rm) (hdn : D.down = false) :
 Calls Tryz.prog 28 #[.pointer (some ⟨d, 0, none⟩)] w fun e w' => Fr (fun b => c b = r) w w' ∧ ((X ∧ e = .returned (.tuple #[.pointer none, .int .i64 22])) ∨ ∃ tp c' Z, e = .returned (.tuple #[.pointer (some ⟨tp, 0, none⟩), .int .i64 0]) ∧ Ag w.heap.size c c' ∧ TreeAt c' r rn rm w' tp Z 0 ∧ Z.D = D ∧ Z.now = o ∧ Z.last = o ∧ Z.S.num = num ∧ Z.S.pages = D.blocks - 2 ∧ Z.S.dk = d) := by
 have h0 := h.root
 have hp := h.page
 have hhd := h.head
 have hso := h.so
 have hone := h.one
 have hln := h.ln
 have hbl : ∀ k, (D.read k).length = 8192 := fun k => by
  have h1 : D.read k = D.good k := by unfold DSt.read; rw [h.opn]; rfl
  rw [h1]; exact h.disk.good_length k
 cases o with
 | none =>
   refine (zen (rm := rm) ho h.disk h.od h.om h.oov h.cl hdn h.b1 h.b2 hbl h.opn h.ok h.nle hhd).mono ?_
   rintro e w' ⟨f, tp, c', rfl, ag, -, t⟩
   exact ⟨f.mono fun _ _ e => e.elim, .inr ⟨tp, c', _, rfl, ag, t, rfl, rfl, rfl, rfl, rfl, rfl⟩⟩
 | some p =>
   obtain ⟨dd, t⟩ := p
   refine (zg7 (rm := rm) ho h.disk h.od h.om h.oov h.cl hdn h.b1 h.b2 hbl h.opn h.ok h.nle hhd h0.1 h0.2 hp hso hone hln).mono ?_
   rintro e w' ⟨f, (⟨hx, rfl⟩ | ⟨tp, c', live, held, rfl, ag, -, hs, t⟩)⟩
   · exact ⟨f, .inl ⟨hx, rfl⟩⟩
   · exact ⟨f, .inr ⟨tp, c', _, rfl, ag, t, rfl, rfl, rfl, rfl, rfl, rfl⟩⟩
end
section
theorem zin {s : DSt} {k n : Nat} {b : Bs} (hg : (s.good k).length = 8192) (hb : b.length = 8192) : (s.lay k b n).good k = b.take n ++ (s.good k).drop n := by
 have h : (s.lay k b n).good k = padB (b.take n ++ (s.good k).drop n) := by
  show padB ((aget (k : Int) (aset (k : Int) (b.take n ++ (s.good k).drop n) s.kept)).getD []) = _
  rw [zbx]; rfl
 rw [h]
 exact z21 (by simp; omega)
theorem zio {D : DSt} {f : Nat → Option Nat} {k : Nat} {b : Bs} (ho : D.opn = [(k, b)]) (hg : ∀ j, (D.good j).length = 8192) (hb : b.length = 8192) : (∀ j, j ≠ k → (cutF D f).read j = D.good j) ∧ ((cutF D f).read k = D.good k ∨ ∃ n, (cutF D f).read k = b.take n ++ (D.good k).drop n) := by
 refine ⟨fun j hj => ?_, ?_⟩
 · rw [zc9]
   exact zc8 (by rw [ho]; intro p hp; simp at hp; subst hp; exact fun e => hj e.symm) _
 · have e : ∀ o, f 0 = o → layUp D f [(k, b)] [(k, b)].length = match o with | some n => D.lay k b n | none => D := fun o h => by
    show layUp D f [(k, b)] 1 = _
    simp only [layUp, h, List.getElem?_cons_zero]
    cases o <;> rfl
   rw [zc9, ho, e _ rfl]
   cases f 0 with
   | none => exact .inl rfl
   | some n => exact .inr ⟨n, zin (hg k) hb⟩
theorem zip {D : DSt} (h : D.opn = []) (j : Nat) : D.read j = D.good j := by unfold DSt.read; rw [h]; rfl
structure FellAt (c : Nat → Nat) (r : Nat) (w w' : World) (dk : Nat) (D : DSt) (c' : Nat → Nat) (m : Nat) (D' : DSt) : Prop where
 ag : Ag w.heap.size c c'
 cl : Cl w' c'
 disk : DiskA (Dt c') w' dk m (.slice none 0 0) D'
 od : c' dk = r
 om : c' m = r
 dm : dk ≠ m
 down : D'.down = true
 opn : D'.opn = []
 after : D'.after < 1
 blocks : D'.blocks = D.blocks
variable {c c' : Nat → Nat} {r rn rm : Nat} {w w' : World} {tp m : Nat} {Z : TSt} {k : Nat} {D' : DSt}
theorem ziq (h : TreeAt c r rn rm w tp Z k) (hf : FellAt c r w w' Z.S.dk Z.D c' m D') (h1 : 1 ≤ Z.S.pages) (h2 : Z.S.pages ≤ 4000) (hh : HeadsOk D'.read Z.S.num (rootId Z.last)) (hr : ∀ j, j ∈ Z.held → D'.read j = Z.D.read j) : LooseIn c' r rn w' Z.S.dk m (.slice none 0 0) D' False Z.S.num Z.last := by
 obtain ⟨st, lm, km, nr, lr, gv, ov, sn, h⟩ := h
 have hsz := h.hd.alive.size
 have hroot : RootAt c' rn w' (pgs D') D'.blocks False Z.last (wRoot Z.last) := by
  rw [hf.blocks]
  refine RootAt.pg (fun id hid => ?_) (RootAt.pageW h.bk.lp (RootAt.wroot h.bk.lp h.last))
  have h3 := h.bk.b2 id
  unfold pgs
  rw [hr id ((h.bk.hl id).2 (by
   by_cases hx : id ∈ Z.live
   · exact hx
   · rw [if_neg hx] at h3; omega))]
 refine ⟨hf.cl, hf.disk, hf.od, hf.om, fun b e => by simp [Value.ownBlock] at e, hf.dm, fun b e => by simp [Value.ownBlock] at e, hf.opn, ⟨fun j => hf.disk.good_length j, by rw [hf.opn]; simp⟩, hf.after, by rw [hf.blocks]; omega, by rw [hf.blocks]; omega, h.bk.num, hh, hroot, h.bk.lp, h.bk.sl, fun id => ?_, h.bk.bl⟩
 rw [h.bk.b2]; split <;> omega
theorem zir {S1 : SSt} {D1 : DSt} {o' : Root} {new : List Nat} {c1 : Nat → Nat} {rn1 : Nat} {w1 : World} {rv : Value} (h : TreeAt c r rn rm w tp Z k) (hf : FellAt c r w w' Z.S.dk Z.D c' m D') (h1 : 1 ≤ Z.S.pages) (h2 : Z.S.pages ≤ 4000) (hn : Z.S.num < 1000000) (la : Laid2 Z.S Z.D Z.held new S1 D1) (hro : RootAt c1 rn1 w1 (pgs D1) Z.D.blocks False o' rv) (hp : rootPage o') (hfl : rootL o' = rootL Z.now) (hcn : ∀ id, rcnt (.pg id) o' = rcnt (.pg id) Z.now + new.count id) (hh : HeadsOk D'.read (Z.S.num + 1) (rootId o')) (hr : ∀ j, 2 ≤ j → D'.read j = D1.read j) : LooseIn c' r rn w' Z.S.dk m (.slice none 0 0) D' False (Z.S.num + 1) o' := by
 obtain ⟨st, lm, km, nr, lr, gv, ov, sn, h⟩ := h
 have hsz := h.hd.alive.size
 have hcase : ∀ id, (0 < rcnt (.pg id) Z.now → id ∈ Z.live) ∧ new.count id = (if id ∈ new then 1 else 0) ∧ (id ∈ new → id ∉ Z.live) := fun id => by
  refine ⟨fun h3 => ?_, la.nd.count, fun h3 h4 => (la.nw id h3).1 ((h.bk.hl id).2 h4)⟩
  have h4 := h.bk.b1 id
  by_cases hx : id ∈ Z.live
  · exact hx
  · rw [if_neg hx] at h4; omega
 have hroot : RootAt c' rn w' (pgs D') D'.blocks False o' (wRoot o') := by
  rw [hf.blocks]
  refine RootAt.pg (fun id hid => ?_) (RootAt.pageW hp (RootAt.wroot hp hro))
  have h3 := hcn id
  obtain ⟨g1, g2, g3⟩ := hcase id
  unfold pgs
  rw [hr id (by
   by_cases hx : id ∈ new
   · exact (la.nw id hx).2.1
   · rw [if_neg hx] at g2
     exact (h.bk.hb id ((h.bk.hl id).2 (g1 (by omega)))).1)]
 refine ⟨hf.cl, hf.disk, hf.od, hf.om, fun b e => by simp [Value.ownBlock] at e, hf.dm, fun b e => by simp [Value.ownBlock] at e, hf.opn, ⟨fun j => hf.disk.good_length j, by rw [hf.opn]; simp⟩, hf.after, by rw [hf.blocks]; omega, by rw [hf.blocks]; omega, by omega, hh, hroot, hp, by rw [hfl]; exact h.bk.sn, fun id => ?_, by rw [hfl]; exact h.bk.bn⟩
 have h3 := hcn id
 have h4 := h.bk.b1 id
 obtain ⟨g1, g2, g3⟩ := hcase id
 by_cases hx : id ∈ new
 · have h5 := g3 hx
   rw [if_neg h5] at h4
   rw [if_pos hx] at g2
   omega
 · rw [if_neg hx] at g2
   split at h4 <;> omega
theorem zis (h : TreeAt c r rn rm w tp Z k) (hf : Fell c r w w' Z.S.dk Z.D (TQ Z)) (h1 : 1 ≤ Z.S.pages) (h2 : Z.S.pages ≤ 4000) (hn : Z.S.num < 1000000) : ∃ c' m D' num o, Ag w.heap.size c c' ∧ LooseIn c' r rn w' Z.S.dk m (.slice none 0 0) D' False num o ∧ D'.down = true ∧ D'.blocks = Z.D.blocks ∧ ((num = Z.S.num ∧ rootL o = rootL Z.last) ∨ (num = Z.S.num + 1 ∧ rootL o = rootL Z.now)) := by
 obtain ⟨-, c', m, D', b1, b2, b3, b4, b5, b6, b7, b8, b9, b10, hq⟩ := hf
 have hfa : FellAt c r w w' Z.S.dk Z.D c' m D' := ⟨b1, b2, b3, b4, b5, b6, b7, b8, b9, b10⟩
 have hbk := h.bk
 have old : (∀ j, (j < 2 ∨ j ∈ Z.held) → D'.read j = Z.D.read j) → ∃ c' m D' num o, Ag w.heap.size c c' ∧ LooseIn c' r rn w' Z.S.dk m (.slice none 0 0) D' False num o ∧ D'.down = true ∧ D'.blocks = Z.D.blocks ∧ ((num = Z.S.num ∧ rootL o = rootL Z.last) ∨ (num = Z.S.num + 1 ∧ rootL o = rootL Z.now)) := fun hr =>
  ⟨c', m, D', _, _, b1, ziq h hfa h1 h2 (zdg hbk.head (hr 0 (.inl (by omega))) (hr 1 (.inl (by omega)))) (fun j hj => hr j (.inr hj)), b7, b10, .inl ⟨rfl, rfl⟩⟩
 rcases hq with hq | ⟨S1, D1, o', new, c1, rn1, w1, rv, la, ok, hro, hp, hfl, hcn, hr1, hr2, hq⟩
 · exact old fun j hj => hq j hj (by rw [hbk.opn]; rfl)
 · have hnn : ∀ j, (j < 2 ∨ j ∈ Z.held) → j ∉ new := fun j hj e => by
    have := la.nw j e
    rcases hj with hj | hj
    · omega
    · exact this.1 hj
   rcases hq with hq | hq | hq
   · refine old fun j hj => ?_
     rw [zca hq Z.held j hj (by rw [la.lo j (hnn j hj), hbk.opn]; rfl), la.read j (hnn j hj)]
   · refine old fun j hj => ?_
     rw [zca hq Z.held j hj rfl, zdp ok, la.read j (hnn j hj)]
   · obtain ⟨f, -, rfl⟩ := hq
     have okf := zdo ok
     obtain ⟨q1, q2⟩ := zio (D := D1.tick.flush.tick.write ((Z.S.num + 1) % 2) (headB (Z.S.num + 1) (rootId o'))) (f := f) (k := (Z.S.num + 1) % 2) (b := padB (headB (Z.S.num + 1) (rootId o'))) rfl (fun j => okf.good j) (z20 (by rw [z4e]; omega))
     have hg : ∀ j, (D1.tick.flush.tick.write ((Z.S.num + 1) % 2) (headB (Z.S.num + 1) (rootId o'))).good j = D1.read j := fun j => by
      rw [← zdp ok j, zip (show D1.tick.flush.opn = [] from rfl)]; rfl
     have hlow : ∀ j, j < 2 → D1.read j = Z.D.read j := fun j hj => la.read j (hnn j (.inl hj))
     have hoth : ∀ j, j ≠ (Z.S.num + 1) % 2 → (cutF (D1.tick.flush.tick.write ((Z.S.num + 1) % 2) (headB (Z.S.num + 1) (rootId o'))) f).read j = D1.read j := fun j hj => by rw [q1 j hj, hg]
     rcases q2 with q2 | ⟨n, q2⟩
     · refine old fun j hj => ?_
       by_cases e : j = (Z.S.num + 1) % 2
       · subst e; rw [q2, hg, hlow _ (by omega)]
       · rw [hoth j e, la.read j (hnn j hj)]
     · rw [hg, hlow _ (by omega)] at q2
       have ht := zdh (rd' := (cutF (D1.tick.flush.tick.write ((Z.S.num + 1) % 2) (headB (Z.S.num + 1) (rootId o'))) f).read) hbk.head hn q2 (by rw [hoth _ (by omega), hlow _ (by omega)])
       rcases ht with ht | ht
       · refine ⟨c', m, _, _, _, b1, ziq h hfa h1 h2 ht (fun j hj => ?_), b7, b10, .inl ⟨rfl, rfl⟩⟩
         have := (hbk.hb j hj).1
         rw [hoth j (by omega), la.read j (hnn j (.inr hj))]
       · exact ⟨c', m, _, _, _, b1, zir h hfa h1 h2 hn la hro hp hfl hcn ht (fun j hj => hoth j (by omega)), b7, b10, .inr ⟨rfl, hfl⟩⟩
end
end Go.Proofs.YtcmicdcikechkaaGreat
