import Derived.Test.YtcmicdcikechkaaGreatEmpty33
import Derived.Test.YtcmicdcikechkaaGreatEmpty42
import Derived.Test.YtcmicdcikechkaaGreatEmpty32
import Derived.Test.YtcmicdcikechkaaGreatEmpty15
set_option linter.all false
section
namespace Go.Proofs.YtcmicdcikechkaaGreat
open Go.RowKit Go.H
set_option maxHeartbeats 2000000
set_option maxRecDepth 100000
theorem str3 {F G : Nat → Prop} {w : World} {u v : Value} {a b : List UInt8} (ha : BytesAt F w u a) (hb : BytesAt G w v b) : ∃ x y : ByteArray, Hid (∀ w_, Fr C0 w w_ → (convert 30 9 u).run Tryz.prog w_ = .ok (.string x) w_) ∧ Hid (∀ w_, Fr C0 w w_ → (convert 30 9 v).run Tryz.prog w_ = .ok (.string y) w_) ∧ Hid ((x.toList == y.toList) = decide (a = b)) ∧ Hid (Op.bytesLess x.toList y.toList = decide (bcmp a b < 0)) :=
  ⟨_, _, Lib.hid fun w_ hf => bytes_str (ha.fr0 hf), Lib.hid fun w_ hf => bytes_str (hb.fr0 hf), Lib.hid (by rw [ByteArray.toList_eq, ByteArray.toList_eq]; simp [beq_dec]), Lib.hid (by rw [ByteArray.toList_eq, ByteArray.toList_eq, ← bytesLess_bcmp])⟩
theorem lat_calls {F G : Nat → Prop} {w : World} {u v : Value} {l : List KV} {key : List UInt8} (hl : PairsAt F w u l) (hk : BytesAt G w v key) :
    Calls Tryz.prog 33 #[u, v] w fun e w' => e = .returned (.tuple #[.int .i64 (atN key l : Int), .bool (atB key l)]) ∧ Fr C0 w w' := by
  have HA := Lib.hid hl
  have HB := Lib.hid hk
  obtain ⟨A, ca, rfl, ha1, ha2⟩ := hl.form
  obtain ⟨B, cb, rfl, -⟩ := hk.form
  clear hl hk
  unfold maxLen at ha2
  go_enter Tryz.func33, Tryz.ntmps33
  go_wp2
  go_loopw [6] (fun i wr => ∃ k : Nat, k ≤ l.length ∧ i = .int .i64 (k : Int) ∧ Fr C0 w wr ∧ Hid (atN key l = k + atN key (l.drop k) ∧ atB key l = atB key (l.drop k))) (fun i _ => l.length - (intOf i).toNat)
  case atStart => exact ⟨0, Nat.zero_le _, rfl, Fr.refl _ _, Lib.hid ⟨by simp, by simp⟩⟩
  case round =>
    obtain ⟨k, hk, rfl, hf, HI⟩ := hrel
    have HF := Lib.hid hf
    clear hf
    by_cases hlt : k < l.length
    · obtain ⟨ga, oa, kva, vva, rfl, a0, a1, a2, a3, a4⟩ := (HA.out.fr0 HF.out).at_ k hlt
      obtain ⟨x1, y1, sa3, sb3, E1, E2⟩ := str3 a3 (HB.out.fr0 HF.out)
      obtain ⟨_, _, rfl, -⟩ := a3.form
      clear a3 a4
      by_cases hb : bcmp l[k].1 key < 0
      · have e2 := E2.out; rw [decide_eq_true hb] at e2
        have HBL := Lib.hid hb
        clear hb
        go_wp2_with fail
        refine wp_region_L (Fr C0 wr) [] (by kernel_rfl) ?_
        have hSw0 : (Fr C0 wr) _ := (Fr.refl C0 wr).drew
        refine tk 0 hSw0 ?_
        refine tk 1 hSw0 ?_
        refine tk 2 hSw0 ?_
        refine tk 3 hSw0 ?_
        refine tk 4 hSw0 ?_ (hy := by intro w_ hS_; have c0 := hS_.cell0 a0; have c1 := hS_.cell0 a1; have c2 := hS_.cell0 a2; first | (go_simp; done) | (go_simp; with_reducible rfl))
        refine tk 5 hSw0 ?_ (hy := by intro w_ hS_; have k3 := sa3.out _ hS_; have l3 := sb3.out _ hS_; first | (go_simp; done) | (go_simp; with_reducible rfl))
        refine tk 6 hSw0 ?_
        refine tk 7 hSw0 ?_ (hy := by intro w_ hS_; have k3 := sa3.out _ hS_; have l3 := sb3.out _ hS_; first | (go_simp; done) | (go_simp; with_reducible rfl))
        refine tk 8 hSw0 ?_
        refine wpAnyL_done (by kernel_rfl) ?_ _
        go_wp2
        go_roundw
        case rel => exact ⟨k + 1, by omega, by go_num, HF.out.drew, Lib.hid ⟨atN_step hlt HI.out.1 HBL.out, atB_step hlt HI.out.2 HBL.out⟩⟩
        case measure => simp [intOf]; omega
      · have e2 := E2.out; rw [decide_eq_false hb] at e2
        have HBL := Lib.hid (at_here hlt HI.out.1 HI.out.2 hb)
        clear hb
        go_wp2_with fail
        refine wp_region_L (Fr C0 wr) [] (by kernel_rfl) ?_
        have hSw0 : (Fr C0 wr) _ := (Fr.refl C0 wr).drew
        refine tk 0 hSw0 ?_
        refine tk 1 hSw0 ?_
        refine tk 2 hSw0 ?_
        refine tk 3 hSw0 ?_
        refine tk 4 hSw0 ?_ (hy := by intro w_ hS_; have c0 := hS_.cell0 a0; have c1 := hS_.cell0 a1; have c2 := hS_.cell0 a2; first | (go_simp; done) | (go_simp; with_reducible rfl))
        refine tk 5 hSw0 ?_ (hy := by intro w_ hS_; have k3 := sa3.out _ hS_; have l3 := sb3.out _ hS_; first | (go_simp; done) | (go_simp; with_reducible rfl))
        refine tk 6 hSw0 ?_
        refine tk 7 hSw0 ?_ (hy := by intro w_ hS_; have k3 := sa3.out _ hS_; have l3 := sb3.out _ hS_; first | (go_simp; done) | (go_simp; with_reducible rfl))
        refine tk 8 hSw0 ?_
        refine wpAnyL_done (by kernel_rfl) ?_ _
        go_wp2_with fail
        refine wp_region_L (Fr C0 wr) [] (by kernel_rfl) ?_
        have hSw0 : (Fr C0 wr) _ := (Fr.refl C0 wr).drew.drew
        refine tk 0 hSw0 ?_
        refine tk 1 hSw0 ?_
        refine tk 2 hSw0 ?_
        refine tk 3 hSw0 ?_
        refine tk 4 hSw0 ?_
        refine tk 5 hSw0 ?_ (hy := by intro w_ hS_; have c0 := hS_.cell0 a0; have c1 := hS_.cell0 a1; have c2 := hS_.cell0 a2; first | (go_simp; done) | (go_simp; with_reducible rfl))
        refine tk 6 hSw0 ?_ (hy := by intro w_ hS_; have k3 := sa3.out _ hS_; have l3 := sb3.out _ hS_; first | (go_simp; done) | (go_simp; with_reducible rfl))
        refine tk 7 hSw0 ?_
        refine tk 8 hSw0 ?_ (hy := by intro w_ hS_; have k3 := sa3.out _ hS_; have l3 := sb3.out _ hS_; first | (go_simp; done) | (go_simp; with_reducible rfl))
        refine tk 9 hSw0 ?_
        refine tk 10 hSw0 ?_
        refine tk 11 hSw0 ?_
        refine wpAnyL_done (by kernel_rfl) ?_ _
        go_wp2
        go_ret2
        refine ⟨?_, HF.out.drew.drew⟩
        rw [HBL.out.1, HBL.out.2, E1.out]
        rfl
    · obtain rfl : k = l.length := by omega
      have HE := Lib.hid (at_end HI.out.1 HI.out.2)
      go_wp2
      go_ret2
      refine ⟨?_, HF.out⟩
      rw [HE.out.1, HE.out.2]
      rfl
theorem PairCells.take_ {F : Nat → Prop} {w : World} : ∀ {xs : List Value} {l : List KV} (n : Nat), PairCells F w xs l → PairCells F w (xs.take (n * 3)) (l.take n)
  | _, _, n, .nil => by simp; exact .nil
  | _, _, 0, .cons h1 h2 h3 => by simp; exact .nil
  | _, _, n + 1, .cons h1 h2 h3 => by
    rw [show (n + 1) * 3 = n * 3 + 1 + 1 + 1 by omega]
    simp only [List.take_succ_cons]
    exact .cons h1 h2 (take_ n h3)
theorem PairCells.drop_ {F : Nat → Prop} {w : World} : ∀ {xs : List Value} {l : List KV} (n : Nat), PairCells F w xs l → PairCells F w (xs.drop (n * 3)) (l.drop n)
  | _, _, n, .nil => by simp; exact .nil
  | _, _, 0, .cons h1 h2 h3 => by simp; exact .cons h1 h2 h3
  | _, _, n + 1, .cons h1 h2 h3 => by
    rw [show (n + 1) * 3 = n * 3 + 1 + 1 + 1 by omega]
    simp only [List.drop_succ_cons]
    exact drop_ n h3
theorem lput_join {F : Nat → Prop} {w w2 w4 w5 w6 : World} {v2 v3 v4 v5 v6 : Value} {xs : List Value} {l : List KV} {x : KV} {N m i : Nat} (hc : PairCells F w xs l) (h2 : w.heap.size ≤ w2.heap.size) (f4 : Fr C0 w w4)
    (b3 : BytesAt (fun b => w2.heap.size ≤ b ∧ b < w4.heap.size) w4 v3 x.1) (b4 : BytesAt (fun b => w2.heap.size ≤ b ∧ b < w4.heap.size) w4 v4 x.2) (hv2 : ∀ b, v2.ownBlock = some b → w.heap.size ≤ b ∧ b < w2.heap.size)
    (f5 : Fr (fun b => v2.ownBlock = some b) w4 w5) (k5 : ∀ b, v5.ownBlock = some b → v2.ownBlock = some b ∨ w4.heap.size < b) (f6 : Fr (fun b => v5.ownBlock = some b) w5 w6) (o6 : w6.ownsRow w.heap.size 119 3 v6 m (xs.take (N * 3) ++ [.int .i64 0, v3, v4] ++ xs.drop (i * 3)))
    (hm : m = (putL x l).length) (hp : putL x l = l.take N ++ x :: l.drop i) : Fr C0 w w6 ∧ PairsAt (fun b => F b ∨ w.heap.size ≤ b) w6 v6 (putL x l) := by
  have s5 := f5.size
  have s4 := f4.size
  have k6 : ∀ b, v5.ownBlock = some b → w.heap.size ≤ b ∧ (b < w2.heap.size ∨ w4.heap.size < b) := fun b e => by
    rcases k5 b e with e | e
    · exact ⟨(hv2 b e).1, .inl (hv2 b e).2⟩
    · exact ⟨by omega, .inr e⟩
  have F6 : Fr C0 w w6 := (f4.trans f5 (fun b hb e => by have := (hv2 b e).1; omega)).trans f6 (fun b hb e => by have := (k6 b e).1; omega)
  refine ⟨F6, xs.take (N * 3) ++ [.int .i64 0, v3, v4] ++ xs.drop (i * 3), by rw [← hm]; exact Row.ofOwn o6 (fun b e => .inr (o6.lt b e).1), ?_⟩
  rw [hp, List.append_assoc]
  have old : PairCells (fun b => F b ∨ w.heap.size ≤ b) w6 xs l := (hc.fr F6 (fun _ _ k => k)).mono (fun b h _ => .inl h)
  have nw : ∀ {v : Value} {y : Bs}, BytesAt (fun b => w2.heap.size ≤ b ∧ b < w4.heap.size) w4 v y → BytesAt (fun b => F b ∨ w.heap.size ≤ b) w6 v y := fun h =>
    ((h.fr f5 (fun b hb e => by have := (hv2 b e).2; omega)).fr f6 (fun b hb e => by have := (k6 b e).2; omega)).mono (fun b hb _ => .inr (by omega))
  exact (PairCells.append (.cons (nw b3) (nw b4) (PairCells.drop_ i old))) (PairCells.take_ N old)
end Go.Proofs.YtcmicdcikechkaaGreat
end
section
namespace Go.Proofs.YtcmicdcikechkaaGreat
open Go.RowKit Go.H
set_option maxHeartbeats 2000000
set_option maxRecDepth 100000
theorem left_at {c : Nat → Nat} {r rn rm : Nat} {w : World} {tp k : Nat} {Z : TSt} (h : TreeAt c r rn rm w tp Z k) : Calls Tryz.prog 9 #[.pointer (some ⟨tp, 0, none⟩)] w fun e w' => e = .returned (.int .i64 (((Z.S.pages - Z.S.state.length) - rootDirty Z.now : Nat) : Int)) ∧ Fr C0 w w' := by
  obtain ⟨st, lm, km, nr, lr, gv, ov, sn, h⟩ := h
  have hsm := h.hd.alive.small
  have hrm := h.bk.room
  have HD := Lib.hid (fun (w_ : World) (hf : Fr C0 w w_) => dirty_root (h.now.fr0 hf) (show rootDirty Z.now ≤ 1000000 by omega))
  have HL := Lib.hid (fun (w_ : World) (hf : Fr C0 w w_) => by
    obtain ⟨sm, d, m, ov, hs⟩ := (h.hd.fr0 hf).store
    exact left_calls hs h.hd.alive.small h.bk.slen)
  have c0 : w.cell? ⟨tp, 0, none⟩ = some (.pointer (some ⟨st, 0, none⟩)) := blk_cell h.blk 0 rfl
  have c1 : w.cell? ⟨tp, 1, none⟩ = some nr := blk_cell h.blk 1 rfl
  have hone : nr = .nilIface ∨ ∃ tx y, nr = .iface tx y := by
    have hr := h.now
    cases hz : Z.now with
    | none => rw [hz] at hr; exact .inl hr
    | some p => rw [hz] at hr; exact .inr hr.1.iface
  have hwr : IntKind.i64.wrap (((Z.S.pages - Z.S.state.length : Nat) : Int) - (rootDirty Z.now : Int)) = ((Z.S.pages - Z.S.state.length : Nat) : Int) - (rootDirty Z.now : Int) := wraps_i64 _ (by omega) (by omega)
  generalize Z.S.pages - Z.S.state.length = Lf at *
  generalize rootDirty Z.now = R at *
  clear h
  rcases hone with rfl | ⟨tx, y, rfl⟩
  · skip
    have hsub : ((Lf - R : Nat) : Int) = (Lf : Int) - (R : Int) := by omega
    rw [hsub]
    go_enter Tryz.func9, Tryz.ntmps9
    go_wp2_with fail
    refine wp_region_L (Fr C0 w) [] (by kernel_rfl) ?_
    have hSw0 : (Fr C0 w) _ := (Fr.refl C0 w).drew
    refine tk 0 hSw0 ?_
    refine tk 1 hSw0 ?_
    refine tk 2 hSw0 ?_
    refine tk 3 hSw0 ?_ (hy := by intro w_ hS_; have b0 := hS_.cell0 c0; have b1 := hS_.cell0 c1; first | (go_simp; done) | (go_simp; with_reducible rfl))
    refine tk 4 hSw0 ?_
    refine tk 5 hSw0 ?_
    refine tk 7 hSw0 ?_
    refine tk 8 hSw0 ?_
    refine tk 9 hSw0 ?_
    refine tk 10 hSw0 ?_
    refine tk 11 hSw0 ?_ (hy := by intro w_ hS_; have b0 := hS_.cell0 c0; have b1 := hS_.cell0 c1; first | (go_simp; done) | (go_simp; with_reducible rfl))
    refine one_ 6 rfl (fun K hK => ?_)
    go_simp
    refine (HL.out _ (by assumption)).mono ?_
    rintro e w5 ⟨rfl, rfl⟩
    simp only []
    refine hK.out _ _ ?kS1 (fun hSw1 => ?kR1)
    case kS1 => exact Fr.drew (by assumption)
    clear hK K
    try simp only [Act.put, List.setIfInBounds_toArray, List.set_cons_zero, List.set_cons_succ]
    refine one_ 12 rfl (fun K hK => ?_)
    go_simp
    refine (HD.out _ (by assumption)).mono ?_
    rintro e w5 ⟨rfl, rfl⟩
    simp only []
    refine hK.out _ _ ?kS2 (fun hSw2 => ?kR2)
    case kS2 => assumption
    clear hK K
    try simp only [Act.put, List.setIfInBounds_toArray, List.set_cons_zero, List.set_cons_succ]
    refine tk 13 hSw2 ?_
    refine tk 14 hSw2 ?_
    refine wpAnyL_done (by kernel_rfl) ?_ _
    go_wp2
    go_ret
    exact ⟨rfl, by assumption⟩
  · skip
    have hsub : ((Lf - R : Nat) : Int) = (Lf : Int) - (R : Int) := by omega
    rw [hsub]
    go_enter Tryz.func9, Tryz.ntmps9
    go_wp2_with fail
    refine wp_region_L (Fr C0 w) [] (by kernel_rfl) ?_
    have hSw0 : (Fr C0 w) _ := (Fr.refl C0 w).drew
    refine tk 0 hSw0 ?_
    refine tk 1 hSw0 ?_
    refine tk 2 hSw0 ?_
    refine tk 3 hSw0 ?_ (hy := by intro w_ hS_; have b0 := hS_.cell0 c0; have b1 := hS_.cell0 c1; first | (go_simp; done) | (go_simp; with_reducible rfl))
    refine tk 4 hSw0 ?_
    refine tk 5 hSw0 ?_
    refine tk 7 hSw0 ?_
    refine tk 8 hSw0 ?_
    refine tk 9 hSw0 ?_
    refine tk 10 hSw0 ?_
    refine tk 11 hSw0 ?_ (hy := by intro w_ hS_; have b0 := hS_.cell0 c0; have b1 := hS_.cell0 c1; first | (go_simp; done) | (go_simp; with_reducible rfl))
    refine one_ 6 rfl (fun K hK => ?_)
    go_simp
    refine (HL.out _ (by assumption)).mono ?_
    rintro e w5 ⟨rfl, rfl⟩
    simp only []
    refine hK.out _ _ ?kS3 (fun hSw1 => ?kR3)
    case kS3 => exact Fr.drew (by assumption)
    clear hK K
    try simp only [Act.put, List.setIfInBounds_toArray, List.set_cons_zero, List.set_cons_succ]
    refine one_ 12 rfl (fun K hK => ?_)
    go_simp
    refine (HD.out _ (by assumption)).mono ?_
    rintro e w5 ⟨rfl, rfl⟩
    simp only []
    refine hK.out _ _ ?kS4 (fun hSw2 => ?kR4)
    case kS4 => assumption
    clear hK K
    try simp only [Act.put, List.setIfInBounds_toArray, List.set_cons_zero, List.set_cons_succ]
    refine tk 13 hSw2 ?_
    refine tk 14 hSw2 ?_
    refine wpAnyL_done (by kernel_rfl) ?_ _
    go_wp2
    go_ret
    exact ⟨rfl, by assumption⟩
theorem depth_at {c : Nat → Nat} {r rn rm : Nat} {w : World} {tp k : Nat} {Z : TSt} (h : TreeAt c r rn rm w tp Z k) : Calls Tryz.prog 16 #[.pointer (some ⟨tp, 0, none⟩)] w fun e w' => e = .returned (.int .i64 (rootD Z.now : Int)) ∧ w = w' := by
  obtain ⟨st, lm, km, nr, lr, gv, ov, sn, h⟩ := h
  exact tdepth_calls h.blk
theorem depth_count : ∀ {d m : Nat} {t : T}, 1 ≤ m → Shape d m t → d ≤ (flat d t).length
  | 0, _, _, _, h => h.elim
  | d + 1, m, .node nm l ks, hm, h => by
    obtain ⟨h1, h2, h3, h4⟩ := h
    by_cases hd : d = 0
    · subst hd
      show 1 ≤ (if 0 = 0 then l else _).length
      rw [if_pos rfl]; omega
    · rw [if_neg hd] at h4
      show d + 1 ≤ (if d = 0 then l else _).length
      rw [if_neg hd, inter_length (by simpa using h4.1)]
      cases ks with
      | nil => simp at h4
      | cons k ks =>
        have h5 := depth_count (by omega) (h4.2 k (by simp))
        simp [sumN]; omega
theorem TreeAt.shape {c : Nat → Nat} {r rn rm : Nat} {w : World} {tp : Nat} {Z : TSt} {k : Nat} (h : TreeAt c r rn rm w tp Z k) : RootSh Z.now := by
  obtain ⟨st, lm, km, nr, lr, gv, ov, sn, h⟩ := h
  have := h.now.sh
  cases hz : Z.now with
  | none => trivial
  | some p => rw [hz] at this; exact this
end Go.Proofs.YtcmicdcikechkaaGreat
end
section
namespace Go.H
theorem rangeL_all (l : List KV) : rangeL [] [] l = l := List.filter_eq_self.2 fun x _ => by simp [inR]
theorem sorted_filter {l : List KV} {p : KV → Bool} (h : Sorted l) : Sorted (l.filter p) := h.sublist List.filter_sublist
theorem range_cut {k : List UInt8} (hk : k ≠ []) : ∀ {l : List KV}, Sorted l → rangeL [] k l ++ rangeL k [] l = l
  | [], _ => rfl
  | x :: l, h => by
    have h1 := List.pairwise_cons.1 h
    have ih := range_cut hk h1.2
    have hs := bcmp_swap x.1 k
    by_cases hx : bcmp x.1 k < 0
    · have e1 : rangeL [] k (x :: l) = x :: rangeL [] k l := by simp [rangeL, inR, hx]
      have e2 : rangeL k [] (x :: l) = rangeL k [] l := by
        have : ¬ bcmp k x.1 ≤ 0 := by omega
        simp [rangeL, inR, hk, this]
      rw [e1, e2, List.cons_append, ih]
    · have e1 : rangeL [] k (x :: l) = [] := by
        refine List.filter_eq_nil_iff.2 fun y hy => ?_
        have hy2 : ¬ bcmp y.1 k < 0 := by
          rcases List.mem_cons.1 hy with rfl | hy
          · exact hx
          · intro h3
            exact hx (bcmp_trans (h1.1 y hy) h3)
        simp [inR, hk, hy2]
      have e2 : rangeL k [] (x :: l) = x :: l := by
        refine List.filter_eq_self.2 fun y hy => ?_
        have hy2 : bcmp k y.1 ≤ 0 := by
          rcases List.mem_cons.1 hy with rfl | hy
          · omega
          · by_cases h0 : bcmp x.1 k = 0
            · have := h1.1 y hy
              unfold klt at this
              rw [← bcmp_zero h0]; omega
            · have := bcmp_trans (a := k) (b := x.1) (c := y.1) (by omega) (h1.1 y hy)
              omega
        simp [inR, hy2]
      rw [e1, e2]; rfl
theorem bcmp_snoc : ∀ (k y : List UInt8), bcmp (k ++ [0]) y ≤ 0 ↔ bcmp k y < 0
  | [], [] => by simp [bcmp]
  | [], b :: bs => by
    simp only [List.nil_append, bcmp]
    have hz : ¬ b < 0 := by simp [UInt8.lt_iff_toNat_lt]
    split
    · simp
    · cases bs <;> simp [bcmp, hz]
  | a :: az, [] => by simp [bcmp]
  | a :: az, b :: bs => by
    have ih := bcmp_snoc az bs
    simp only [List.cons_append, bcmp]
    split
    · simp
    · split
      · simp
      · exact ih
end Go.H
end
section
namespace Go.H
theorem klt_irrefl {a : KV} (h : klt a a) : False := by unfold klt at h; rw [bcmp_self] at h; omega
theorem mem_putL {x z : KV} : ∀ {l : List KV}, Sorted l → (z ∈ putL x l ↔ z = x ∨ (z ∈ l ∧ bcmp x.1 z.1 ≠ 0))
  | [], _ => by simp [putL]
  | y :: l, h => by
    have h1 := List.pairwise_cons.1 h
    have ih := mem_putL (x := x) (z := z) h1.2
    unfold putL
    split
    · rename_i h2
      have hl : ∀ a ∈ l, bcmp x.1 a.1 < 0 := fun a ha => bcmp_trans h2 (h1.1 a ha)
      simp only [List.mem_cons]
      constructor
      · rintro (rfl | rfl | hz)
        · exact .inl rfl
        · exact .inr ⟨.inl rfl, by omega⟩
        · exact .inr ⟨.inr hz, by have := hl z hz; omega⟩
      · rintro (rfl | ⟨rfl | hz, _⟩)
        · exact .inl rfl
        · exact .inr (.inl rfl)
        · exact .inr (.inr hz)
    · split
      · rename_i h2 h3
        have e := bcmp_zero h3
        simp only [List.mem_cons]
        constructor
        · rintro (rfl | hz)
          · exact .inl rfl
          · exact .inr ⟨.inr hz, by have := h1.1 z hz; unfold klt at this; rw [← e] at this; omega⟩
        · rintro (rfl | ⟨rfl | hz, hne⟩)
          · exact .inl rfl
          · exact absurd h3 hne
          · exact .inr hz
      · rename_i h2 h3
        simp only [List.mem_cons, ih]
        constructor
        · rintro (rfl | rfl | ⟨hz, hne⟩)
          · exact .inr ⟨.inl rfl, h3⟩
          · exact .inl rfl
          · exact .inr ⟨.inr hz, hne⟩
        · rintro (rfl | ⟨rfl | hz, hne⟩)
          · exact .inr (.inl rfl)
          · exact .inl rfl
          · exact .inr (.inr ⟨hz, hne⟩)
theorem sorted_ext : ∀ {l m : List KV}, Sorted l → Sorted m → (∀ z, z ∈ l ↔ z ∈ m) → l = m
  | [], [], _, _, _ => rfl
  | [], y :: m, _, _, h => by have := (h y).2 (by simp); simp at this
  | x :: l, [], _, _, h => by have := (h x).1 (by simp); simp at this
  | x :: l, y :: m, hl, hm, h => by
    have h1 := List.pairwise_cons.1 hl
    have h2 := List.pairwise_cons.1 hm
    have e : x = y := by
      rcases List.mem_cons.1 ((h x).1 (by simp)) with e | e
      · exact e
      · rcases List.mem_cons.1 ((h y).2 (by simp)) with e2 | e2
        · exact e2.symm
        · exact (klt_irrefl (klt_trans (h1.1 y e2) (h2.1 x e))).elim
    subst e
    rw [sorted_ext h1.2 h2.2 fun z => ⟨fun hz => ?_, fun hz => ?_⟩]
    · rcases List.mem_cons.1 ((h z).1 (List.mem_cons_of_mem _ hz)) with e | e
      · subst e; exact (klt_irrefl (h1.1 z hz)).elim
      · exact e
    · rcases List.mem_cons.1 ((h z).2 (List.mem_cons_of_mem _ hz)) with e | e
      · subst e; exact (klt_irrefl (h2.1 z hz)).elim
      · exact e
def ordL (x : List UInt8) (l : List KV) : List KV := if x = [] then l else putL (x, x) l
theorem mem_ordL {x : List UInt8} {l : List KV} {z : KV} (hs : Sorted l) (he : ∀ z ∈ l, z.2 = z.1) : z ∈ ordL x l ↔ (x ≠ [] ∧ z = (x, x)) ∨ z ∈ l := by
  unfold ordL
  split
  · rename_i h; simp [h]
  · rename_i h
    rw [mem_putL hs]
    constructor
    · rintro (rfl | ⟨hz, _⟩)
      · exact .inl ⟨h, rfl⟩
      · exact .inr hz
    · rintro (⟨_, rfl⟩ | hz)
      · exact .inl rfl
      · by_cases hb : bcmp x z.1 = 0
        · have e := bcmp_zero hb
          have e2 := he z hz
          left
          obtain ⟨a, b⟩ := z
          simp at e e2
          rw [e2, ← e]
        · exact .inr ⟨hz, hb⟩
theorem putL_sorted' {x : KV} {l : List KV} (h : Sorted l) : Sorted (putL x l) := by
  have key : ∀ {l : List KV} {y : KV}, klt y x → (∀ z ∈ l, klt y z) → Sorted l → ∀ z ∈ putL x l, klt y z := fun {l y} h hl hs z hz => by
    rcases (mem_putL hs).1 hz with rfl | ⟨hz, _⟩
    · exact h
    · exact hl z hz
  induction l with
  | nil => simp [putL, Sorted]
  | cons y l ih =>
    have h1 := List.pairwise_cons.1 h
    unfold putL
    split
    · rename_i h2
      exact List.pairwise_cons.2 ⟨fun z hz => by
        rcases List.mem_cons.1 hz with rfl | hz
        · exact h2
        · exact bcmp_trans h2 (h1.1 z hz), h⟩
    · split
      · rename_i h2
        have e := bcmp_zero h2
        refine List.pairwise_cons.2 ⟨fun z hz => ?_, h1.2⟩
        have := h1.1 z hz
        unfold klt at this ⊢
        rw [e]; exact this
      · rename_i h2 h3
        refine List.pairwise_cons.2 ⟨key ?_ h1.1 h1.2, ih h1.2⟩
        have := bcmp_swap x.1 y.1
        unfold klt; omega
def foldO (ks : List (List UInt8)) : List KV := ks.foldl (fun l x => ordL x l) []
theorem foldO_snoc (ks : List (List UInt8)) (x : List UInt8) : foldO (ks ++ [x]) = ordL x (foldO ks) := by simp [foldO]
theorem foldO_spec (ks : List (List UInt8)) : Sorted (foldO ks) ∧ ∀ z, z ∈ foldO ks ↔ ∃ x ∈ ks, x ≠ [] ∧ z = (x, x) := by
  have key : ∀ n, ∀ ks : List (List UInt8), ks.length = n → Sorted (foldO ks) ∧ ∀ z, z ∈ foldO ks ↔ ∃ x ∈ ks, x ≠ [] ∧ z = (x, x) := by
    intro n
    induction n with
    | zero => intro ks h; obtain rfl := List.length_eq_zero_iff.1 h; exact ⟨.nil, by simp [foldO]⟩
    | succ n ih =>
      intro ks h
      have hne : ks ≠ [] := by rintro rfl; simp at h
      rw [← List.dropLast_concat_getLast hne, foldO_snoc]
      obtain ⟨h1, h2⟩ := ih ks.dropLast (by simp [h])
      have he : ∀ z ∈ foldO ks.dropLast, z.2 = z.1 := fun z hz => by obtain ⟨x, _, _, rfl⟩ := (h2 z).1 hz; rfl
      refine ⟨?_, fun z => ?_⟩
      · unfold ordL; split
        · exact h1
        · exact putL_sorted' h1
      · rw [mem_ordL h1 he, h2]
        simp only [List.mem_append, List.mem_singleton]
        constructor
        · rintro (⟨ha, rfl⟩ | ⟨x, hx, hne, rfl⟩)
          · exact ⟨_, .inr rfl, ha, rfl⟩
          · exact ⟨x, .inl hx, hne, rfl⟩
        · rintro ⟨x, hx | rfl, hne, rfl⟩
          · exact .inr ⟨x, hx, hne, rfl⟩
          · exact .inl ⟨hne, rfl⟩
  exact key _ ks rfl
theorem foldO_ext {ks ks' : List (List UInt8)} (h : ∀ x, x ∈ ks ↔ x ∈ ks') : foldO ks = foldO ks' := by
  have a := foldO_spec ks
  have b := foldO_spec ks'
  exact sorted_ext a.1 b.1 fun z => by rw [a.2, b.2]; simp [h]
theorem foldO_take {ks : List (List UInt8)} {k : Nat} (h : k < ks.length) : foldO (ks.take (k + 1)) = ordL ks[k] (foldO (ks.take k)) := by
  rw [List.take_succ_eq_append_getElem h, foldO_snoc]
end Go.H
end
section
namespace Go.Proofs.YtcmicdcikechkaaGreat
open Go.RowKit Go.H
set_option maxHeartbeats 2000000
set_option maxRecDepth 100000
structure FitsP (pn k : Nat) (Z : TSt) : Prop where
  num : Z.S.num ≤ k
  now : (rootL Z.now).length ≤ k
  last : (rootL Z.last).length ≤ k
  pages : Z.S.pages = pn
theorem FitsP.le {pn k k' : Nat} {Z : TSt} (h : FitsP pn k Z) (hk : k ≤ k') : FitsP pn k' Z := ⟨Nat.le_trans h.num hk, Nat.le_trans h.now hk, Nat.le_trans h.last hk, h.pages⟩
structure One (w0 : World) (pn tp : Nat) (La Ll : List KV) (k : Nat) (w : World) : Prop where
  ex : ∃ c Z, Stg (fun _ => 0) w0 1 2 3 c w tp Z 0 ∧ rootL Z.now = La ∧ rootL Z.last = Ll ∧ FitsP pn k Z
variable {w0 w : World} {pn tp k : Nat} {La Ll : List KV}
theorem own123 : Owners 1 2 3 := ⟨by omega, by omega, by omega, by omega, by omega, by omega⟩
theorem no123 : ∀ b : Nat, (fun _ => 0 : Nat → Nat) b ≠ 1 ∧ (fun _ => 0 : Nat → Nat) b ≠ 2 ∧ (fun _ => 0 : Nat → Nat) b ≠ 3 := fun b => by simp
theorem One.le {k' : Nat} (h : One w0 pn tp La Ll k w) (hk : k ≤ k') : One w0 pn tp La Ll k' w := by
  obtain ⟨c, Z, a, b, d, e⟩ := h
  exact ⟨c, Z, a, b, d, e.le hk⟩
theorem One.fr0 {w' : World} (h : One w0 pn tp La Ll k w) (hf : Fr C0 w w') : One w0 pn tp La Ll k w' := by
  obtain ⟨c, Z, a, b, d, e⟩ := h
  exact ⟨c, Z, a.fr0 hf, b, d, e⟩
theorem One.fr (h : One w0 pn tp La Ll k w) : Fr C0 w0 w := by
  obtain ⟨c, Z, a, _⟩ := h
  exact a.fr
theorem One.cl (h : One w0 pn tp La Ll k w) : ∃ c, Cl w c := by
  obtain ⟨c, Z, a, _⟩ := h
  exact ⟨c, a.tr.cl⟩
theorem One.sorted (h : One w0 pn tp La Ll k w) : Sorted La := by
  obtain ⟨c, Z, a, b, _⟩ := h
  rw [← b]; exact a.tr.bk.sn
theorem One.ok (h : One w0 pn tp La Ll k w) : ∀ x ∈ La, KVok x := by
  obtain ⟨c, Z, a, b, _⟩ := h
  rw [← b]; exact a.tr.ok
theorem one_open {n : Nat} (h1 : 3 ≤ n) (h2 : n ≤ 4096) :
    Calls Tryz.prog 8 #[.int .i64 (n : Int)] w fun e w' => ∃ tp, e = .returned (.tuple #[.pointer (some ⟨w.heap.size + 1, 0, none⟩), .pointer (some ⟨tp, 0, none⟩)]) ∧ Hid (One w (n - 2) tp [] [] 0 w') := by
  refine (lopen_calls (c := fun _ => 0) own123 (fun _ _ => rfl) h1 h2).mono ?_
  rintro e w' ⟨tp, rfl, f, c', ag, t⟩
  exact ⟨tp, rfl, Lib.hid ⟨c', _, ⟨f, ag, t⟩, rfl, rfl, Nat.le_refl _, Nat.le_refl _, Nat.le_refl _, rfl⟩⟩
theorem one_put {kv vv : Value} {x v : Bs} (h : One w0 pn tp La Ll k w) (hk : BytesAt (fun _ => True) w0 kv x) (hv : BytesAt (fun _ => True) w0 vv v) (hx : x.length ≤ 64) (hvl : v.length ≤ 1800) (hk3 : 2 * k < pn) (hk4 : k ≤ 80000) :
    Calls Tryz.prog 10 #[.pointer (some ⟨tp, 0, none⟩), kv, vv] w fun e w' => ∃ i : Int, (if x = [] then i = 1 else i = 0) ∧ e = .returned (.int .i64 i) ∧ Hid (One w0 pn tp (if x = [] then La else putL (x, v) La) Ll (k + 1) w') := by
  obtain ⟨c, Z, a, rfl, rfl, i⟩ := h
  have hkc := came_in hk (fun _ => rfl) a.fr a.ag
  have hvc := came_in hv (fun _ => rfl) a.fr a.ag
  by_cases h0 : x = []
  · have hw : wrong x v = 1 := by unfold wrong; rw [if_pos h0]
    refine (wrong_at a.tr hkc hvc (by omega)).mono ?_
    rintro e' w' ⟨rfl, f⟩
    rw [hw]
    refine ⟨1, by rw [if_pos h0], rfl, Lib.hid ?_⟩
    rw [if_pos h0]
    exact One.le ⟨c, Z, a.fr0 f, rfl, rfl, i⟩ (by omega)
  · have hw : wrong x v = 0 := by unfold wrong; rw [if_neg h0, if_neg (by omega)]
    have h1 := held_le a.tr.bk a.tr.shl
    have h2 := i.now
    have h3 := i.last
    have h4 := i.pages
    refine (put_room (x := (x, v)) own123 a.tr hkc hvc hw (by omega) (by omega)).mono ?_
    rintro e' w' ⟨rfl, f, c', o', g', ag, t, e1⟩
    refine ⟨0, by rw [if_neg h0], rfl, Lib.hid ?_⟩
    rw [if_neg h0]
    exact ⟨c', _, a.next no123 f ag t, e1, rfl, ⟨by have := i.num; show Z.S.num ≤ _; omega, by show (rootL o').length ≤ _; rw [e1, putL_length a.tr.bk.sn]; split <;> omega, by show (rootL Z.last).length ≤ _; omega, h4⟩⟩
theorem one_commit (h : One w0 pn tp La Ll k w) (hk4 : k ≤ 80000) :
    Calls Tryz.prog 11 #[.pointer (some ⟨tp, 0, none⟩)] w fun e w' => e = .returned (.int .i64 0) ∧ Hid (One w0 pn tp La La (k + 1) w' ∧ ∃ c Z, Stg (fun _ => 0) w0 1 2 3 c w' tp Z 0 ∧ rootL Z.now = La ∧ Z.last = Z.now ∧ Z.gone = [] ∧ rootDirty Z.now = 0 ∧ FitsP pn (k + 1) Z) := by
  obtain ⟨c, Z, a, rfl, rfl, i⟩ := h
  refine (commit_at own123 a.tr (by have := i.num; omega)).mono ?_
  rintro e' w' ⟨rfl, f, c', Z1, ag, t, e1, e2, e3, -, e5, e6, e7⟩
  have h2 := i.now
  have st := a.next no123 f ag t
  have ft : FitsP pn (k + 1) Z1 := ⟨by have := i.num; omega, by rw [e1]; omega, by rw [e2, e1]; omega, by rw [e5]; exact i.pages⟩
  exact ⟨rfl, Lib.hid ⟨⟨c', Z1, st, e1, by rw [e2, e1], ft⟩, c', Z1, st, e1, e2, e3, e7, ft⟩⟩
theorem one_del {kv : Value} {x : Bs} (h : One w0 pn tp La Ll k w) (hk : BytesAt (fun _ => True) w0 kv x) (h0 : x ≠ []) (hl : x.length ≤ 64) (hk3 : 2 * k ≤ pn) :
    Calls Tryz.prog 12 #[.pointer (some ⟨tp, 0, none⟩), kv] w fun e w' => e = .returned (.tuple #[.bool (getL x La).isSome, .int .i64 0]) ∧ Hid (One w0 pn tp (delL x La) Ll k w') := by
  obtain ⟨c, Z, a, rfl, rfl, i⟩ := h
  have hkc := came_in hk (fun _ => rfl) a.fr a.ag
  have hw : wrong x [] = 0 := by unfold wrong; rw [if_neg h0, if_neg (by simp; omega)]
  have h1 := held_le a.tr.bk a.tr.shl
  have h2 := i.now
  have h3 := i.last
  have h4 := i.pages
  refine (del_at own123 a.tr hkc hw).mono ?_
  rintro e' w' (⟨hg, rfl, f⟩ | ⟨hg, ⟨rfl, f, o', e1, e2, e3, e4⟩ | ⟨rfl, f, c', o', g', ag, t, e1⟩⟩)
  · refine ⟨by rw [hg]; rfl, Lib.hid ?_⟩
    rw [delL_miss hg]
    exact One.fr0 ⟨c, Z, a, rfl, rfl, i⟩ f
  · have h5 := rootDirty_count e2
    have h6 := (delL_sub x (rootL Z.now)).length_le
    rw [e1] at h5
    omega
  · refine ⟨by cases hh : getL x (rootL Z.now) with | none => exact absurd hh hg | some _ => rfl, Lib.hid ?_⟩
    have h6 := (delL_sub x (rootL Z.now)).length_le
    exact ⟨c', _, a.next no123 (f.mono (fun _ _ e => .inl e)) ag t, e1, rfl, ⟨i.num, by show (rootL o').length ≤ _; rw [e1]; omega, h3, h4⟩⟩
theorem one_get {kv : Value} {x : Bs} (h : One w0 pn tp La Ll k w) (hk : BytesAt (fun _ => True) w0 kv x) (h0 : x ≠ []) (hl : x.length ≤ 64) :
    Calls Tryz.prog 13 #[.pointer (some ⟨tp, 0, none⟩), kv] w fun e w' => GetP w w' False e (getL x La) := by
  obtain ⟨c, Z, a, rfl, rfl, i⟩ := h
  have hw : wrong x [] = 0 := by unfold wrong; rw [if_neg h0, if_neg (by simp; omega)]
  exact get_at a.tr (came_in hk (fun _ => rfl) a.fr a.ag) hw
theorem one_len (h : One w0 pn tp La Ll k w) : Calls Tryz.prog 15 #[.pointer (some ⟨tp, 0, none⟩)] w fun e w' => e = .returned (.int .i64 (La.length : Int)) ∧ w = w' := by
  obtain ⟨c, Z, a, rfl, rfl, i⟩ := h
  exact len_at a.tr
theorem one_check (h : One w0 pn tp La Ll k w) : Calls Tryz.prog 18 #[.pointer (some ⟨tp, 0, none⟩)] w fun e w' => e = .returned (.int .i64 0) ∧ Fr C0 w w' := by
  obtain ⟨c, Z, a, rfl, rfl, i⟩ := h
  exact check_at own123 a.tr
theorem getL_del {k : Bs} {l : List KV} (hs : Sorted l) : getL k (delL k l) = none := by
  induction l with
  | nil => rfl
  | cons y l ih =>
    have h1 := List.pairwise_cons.1 hs
    simp only [delL]
    split
    · rename_i h
      refine getL_none fun z hz => ?_
      have := h1.1 z hz
      unfold klt at this
      rw [bcmp_zero h]; exact this
    · rename_i h
      simp only [getL, if_neg h]
      exact ih h1.2
theorem mem_del {k : Bs} {z : KV} {l : List KV} (hs : Sorted l) (hz : z ∈ delL k l) : z ∈ l ∧ z.1 ≠ k := by
  refine ⟨(delL_sub k l).subset hz, fun e => ?_⟩
  induction l with
  | nil => simp [delL] at hz
  | cons y l ih =>
    have h1 := List.pairwise_cons.1 hs
    simp only [delL] at hz
    split at hz
    · rename_i h
      have h2 := h1.1 z hz
      unfold klt at h2
      rw [e, ← bcmp_zero h, bcmp_self] at h2
      omega
    · rename_i h
      rcases List.mem_cons.1 hz with rfl | hz
      · exact h (by rw [e, bcmp_self])
      · exact ih h1.2 hz
end Go.Proofs.YtcmicdcikechkaaGreat
end
