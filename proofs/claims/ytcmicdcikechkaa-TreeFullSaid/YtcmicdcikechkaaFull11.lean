import Derived.Test.YtcmicdcikechkaaFull04
import Derived.Deep.DeepMust
import Derived.Test.YtcmicdcikechkaaFull10
set_option linter.all false
section
namespace Go.Proofs.Ytcmicdcikechkaa
open Go.RowKit Go.H
set_option maxHeartbeats 1000000
set_option maxRecDepth 100000
theorem bytes_calls {F : Nat → Prop} {w : World} {sv : Value} {s : List UInt8} (hs : BytesAt F w sv s) (hn : s.length < 16384) : Calls Try.prog 90 #[sv] w fun e w' => ∃ v', e = .returned v' ∧ Fr C0 w w' ∧ w'.ownsRow w.heap.size 5 1 v' (bytesB s).length ((bytesB s).map bv) := by
  have HS := Lib.hid (hs.row.mono (F' := fun b => b < w.heap.size) (fun b _ h => h))
  obtain ⟨A, c, rfl, h1, h2⟩ := hs.form
  clear hs
  unfold maxLen at h2
  go_enter Try.func90, Try.ntmps90
  go_wp2_with fail
  refine (uint_calls s.length hn w).mono ?_
  rintro e w1 ⟨v1, rfl, f1, o1⟩
  have hu := uintB_length s.length
  have hul : (uintB s.length).length ≤ 2 := by omega
  have O1 := Lib.hid o1; have F1 := Lib.hid f1; clear o1 f1 hu
  have hs1 := F1.out.size
  go_wp2_with (at_builtin; refine wpl_app sl_u8 rfl _ _ rfl (v := v1) (xv := .slice A s.length c) rfl rfl O1.out (HS.out.fr0 F1.out) (oneCell_bv s) (by unfold maxLen; omega) (by omega) (by omega) ?_; intro v2 w2 o2 f2 k2 nil2)
  go_ret
  refine ⟨v2, rfl, F1.out.transO f2 (fun b e => (O1.out.lt _ e).1), ?_⟩
  simpa [bytesB] using o2
theorem readUint_calls {F : Nat → Prop} {w : World} {v : Value} {l rest : List UInt8} {at_ n : Nat} (hl : BytesAt F w v l) (hat : l.drop at_ = uintB n ++ rest) (hn : n < 16384) (hll : l.length ≤ 8192) :
    Calls Try.prog 108 #[v, .int .i64 at_] w fun e w' => e = .returned (.tuple #[.int .i64 n, .int .i64 ((at_ + (uintB n).length : Nat) : Int), .int .i64 0]) ∧ w = w' := by
  obtain ⟨A, c, rfl, h1, h2⟩ := hl.form
  unfold maxLen at h2
  have hlen : at_ + ((uintB n).length + rest.length) = l.length := by
    have := congrArg List.length hat
    have h0 := uintB_length n
    simp only [List.length_drop, List.length_append] at this
    omega
  by_cases h : n < 128
  · have e1 : uintB n = [UInt8.ofNat n] := if_pos h
    rw [e1] at hat hlen
    have hb : ∃ hi : at_ < l.length, l[at_] = UInt8.ofNat n := by
      have : (l.drop at_)[0]? = some (UInt8.ofNat n) := by rw [hat]; rfl
      rw [List.getElem?_drop] at this
      exact List.getElem?_eq_some_iff.1 this
    obtain ⟨hi, hb⟩ := hb
    obtain ⟨g, o, rfl, hF, hc⟩ := hl.at_ at_ hi
    rw [hb] at hc
    have hv : ((UInt8.ofNat n).toNat : Int) = (n : Int) := by simp; omega
    rw [hv] at hc
    rw [e1]
    have HN := Lib.hid hlen
    clear hat hlen hl hb hv e1
    go_enter Try.func108, Try.ntmps108
    go_wp2
    refine wp_loop_rounds 1 ?_; rw [rounds_succ]
    go_wp2
    go_ret3
    refine ⟨?_, rfl⟩
    have e : bits BinOp.or IntKind.i64 0 (wrap64 (bits BinOp.and IntKind.u8 (↑n) 127)) = (n : Int) := by
      rw [hb8_and127 (by omega) (by omega), hb_w64 (by omega) (by omega), hb_or0 (by omega) (by omega)]; omega
    simp [e]
  · have e1 : uintB n = [UInt8.ofNat (128 + n / 128), UInt8.ofNat (n % 128)] := if_neg h
    rw [e1] at hat hlen
    have hb0 : ∃ hi : at_ < l.length, l[at_] = UInt8.ofNat (128 + n / 128) := by
      have : (l.drop at_)[0]? = some (UInt8.ofNat (128 + n / 128)) := by rw [hat]; rfl
      rw [List.getElem?_drop] at this
      exact List.getElem?_eq_some_iff.1 this
    have hb1 : ∃ hi : at_ + 1 < l.length, l[at_ + 1] = UInt8.ofNat (n % 128) := by
      have : (l.drop at_)[1]? = some (UInt8.ofNat (n % 128)) := by rw [hat]; rfl
      rw [List.getElem?_drop] at this
      exact List.getElem?_eq_some_iff.1 this
    obtain ⟨hi, hb0⟩ := hb0
    obtain ⟨hi1, hb1⟩ := hb1
    obtain ⟨g, o, rfl, hF, hc⟩ := hl.at_ at_ hi
    obtain ⟨g', o', he, hF', hc1⟩ := hl.at_ (at_ + 1) hi1
    injection he with he
    injection he with e2 e3 e4
    subst e2; subst e3
    rw [hb0] at hc
    rw [hb1] at hc1
    have hv : ((UInt8.ofNat (128 + n / 128)).toNat : Int) = 128 + (n : Int) / 128 := by simp; omega
    have hv1 : ((UInt8.ofNat (n % 128)).toNat : Int) = (n : Int) % 128 := by simp; omega
    rw [hv] at hc
    rw [hv1] at hc1
    rw [e1]
    have HN := Lib.hid hlen
    clear hat hlen hl hb0 hb1 hv hv1 e1
    have hn1 : (n : Int) / 128 < 128 := by omega
    have hn2 : 1 ≤ (n : Int) / 128 := by omega
    have hn3 : 0 ≤ (n : Int) % 128 := by omega
    have hn4 : (n : Int) % 128 < 128 := by omega
    have hne : ((128 + (n : Int) / 128) == 128) = false := by simp; omega
    have hc1' : w.cell? ⟨g, o + (at_ + 1), none⟩ = some (.int .u8 ((n : Int) % 128)) := hc1
    go_enter Try.func108, Try.ntmps108
    go_wp2
    refine wp_loop_rounds 2 ?_; rw [rounds_succ]
    go_wp2
    rw [rounds_succ]
    go_wp2
    go_ret3
    refine ⟨?_, rfl⟩
    have e : bits BinOp.or IntKind.i64 (wrap64 (bits BinOp.or IntKind.i64 0 (wrap64 (bits BinOp.and IntKind.u8 (128 + ↑n / 128) 127)) * 128)) (wrap64 (bits BinOp.and IntKind.u8 (↑n % 128) 127)) = (n : Int) := by
      have a1 : bits BinOp.and IntKind.u8 (128 + (n : Int) / 128) 127 = (n : Int) / 128 := by rw [hb8_and127 (by omega) (by omega)]; omega
      have a2 : bits BinOp.and IntKind.u8 ((n : Int) % 128) 127 = (n : Int) % 128 := by rw [hb8_and127 (by omega) (by omega)]; omega
      rw [a1, a2, hb_w64 (y := (n : Int) / 128) (by omega) (by omega), hb_or0 (y := (n : Int) / 128) (by omega) (by omega), hb_w64 (y := (n : Int) / 128 * 128) (by omega) (by omega), hb_w64 (y := (n : Int) % 128) (by omega) (by omega), hb_orj (by omega) (by omega) (by omega) (by omega)]; omega
    have e3 : (at_ : Int) + 1 + 1 = ((at_ + 2 : Nat) : Int) := by omega
    simp [e, e3]
theorem readBytes_calls {F : Nat → Prop} {w : World} {v : Value} {l s rest : List UInt8} {at_ most : Nat} (hl : BytesAt F w v l) (hat : l.drop at_ = bytesB s ++ rest) (hm : s.length ≤ most) (hn : s.length < 16384) (hll : l.length ≤ 8192) (hmm : most ≤ 100000) :
    Calls Try.prog 109 #[v, .int .i64 at_, .int .i64 most] w fun e w' => ∃ v', e = .returned (.tuple #[v', .int .i64 ((at_ + (bytesB s).length : Nat) : Int), .int .i64 0]) ∧ Fr C0 w w' ∧ w'.ownsRow w.heap.size 5 1 v' s.length (s.map bv) := by
  have hat1 : l.drop at_ = uintB s.length ++ (s ++ rest) := by rw [hat]; simp [bytesB]
  have hu := uintB_length s.length
  have hul : (uintB s.length).length ≤ 2 := by omega
  have hlen : at_ + ((uintB s.length).length + (s.length + rest.length)) = l.length := by
    have := congrArg List.length hat1
    simp only [List.length_drop, List.length_append] at this
    omega
  have hs : (l.drop (at_ + (uintB s.length).length)).take s.length = s := by
    rw [← List.drop_drop, hat1]; simp
  have hbl : (bytesB s).length = (uintB s.length).length + s.length := by simp [bytesB]
  have H0 := Lib.hid hl
  obtain ⟨A, c, rfl, h1, h2⟩ := hl.form
  unfold maxLen at h2
  have HAT := Lib.hid hat1
  obtain ⟨k, hk⟩ : ∃ k, k = (uintB s.length).length := ⟨_, rfl⟩
  have HK := Lib.hid hk
  have HS := Lib.hid hs
  have HBL := Lib.hid hbl
  have hb1 : at_ + k + s.length ≤ l.length := by omega
  have hb2 : k ≤ 2 := by omega
  clear hl hat hat1 hu hul hlen hs hbl hk
  by_cases hck : c = at_ + k
  · have hs0 : s.length = 0 := by omega
    obtain rfl : s = [] := List.eq_nil_of_length_eq_zero hs0
    subst hck
    go_enter Try.func109, Try.ntmps109
    go_wp2_with fail
    refine (readUint_calls H0.out HAT.out hn hll).mono ?_
    rintro e w1 ⟨rfl, rfl⟩
    rw [← HK.out]
    go_wp2_with (at_builtin; go_must (refine wpl_app sl_u8 rfl _ _ rfl (v := .slice none 0 0) (xv := .slice A 0 (at_ + k - (at_ + k))) (F := C0) rfl rfl (B := w.heap.size) (World.ownsRow_nil _ _ _ _) ⟨A, _, rfl, Nat.zero_le _, by unfold maxLen; omega, rfl, fun h => absurd rfl h⟩ (by simp) (by unfold maxLen; omega) (by omega) (by omega) ?_); intro v2 w2 o2 f2 k2 nil2)
    go_ret3
    refine ⟨v2, ?_, f2.mono (fun b _ h => by simp [Value.ownBlock] at h), by simpa using o2⟩
    have hk1 := HK.out
    simp only [List.length_nil] at hk1
    simp [bytesB, hk1]
  · have hd : Row (fun b => b < w.heap.size) w (.slice (A.map (fun x => x.add (at_ + k))) (at_ + k + s.length - (at_ + k)) (c - (at_ + k))) s.length 1 (s.map bv) := by
      rw [show at_ + k + s.length - (at_ + k) = s.length by omega]
      have h3 := (H0.out.row.mono (F' := fun b => b < w.heap.size) (fun b _ h => h)).drop1 (i := at_ + k) (by omega)
      rw [if_neg hck] at h3
      have h4 := h3.take1 (i := s.length) (by omega)
      rwa [← List.map_drop, ← List.map_take, HK.out, HS.out, ← HK.out] at h4
    have HD := Lib.hid hd; clear hd
    go_enter Try.func109, Try.ntmps109
    go_wp2_with fail
    refine (readUint_calls H0.out HAT.out hn hll).mono ?_
    rintro e w1 ⟨rfl, rfl⟩
    rw [← HK.out]
    go_wp2_with (at_builtin; go_must (refine wpl_app sl_u8 rfl _ _ rfl (v := .slice none 0 0) (xv := .slice (A.map (fun x => x.add (at_ + k))) (at_ + k + s.length - (at_ + k)) (c - (at_ + k))) rfl rfl (B := w.heap.size) (World.ownsRow_nil _ _ _ _) HD.out (oneCell_bv s) (by unfold maxLen; omega) (by omega) (by omega) ?_); intro v2 w2 o2 f2 k2 nil2)
    go_ret3
    refine ⟨v2, ?_, f2.mono (fun b _ h => by simp [Value.ownBlock] at h), by simpa using o2⟩
    have hk1 := HK.out
    simp only [HBL.out, ← hk1]
    simp
    omega
end Go.Proofs.Ytcmicdcikechkaa
end
section
namespace Go.Proofs.Ytcmicdcikechkaa
open Go.RowKit Go.H
set_option maxHeartbeats 1000000
set_option maxRecDepth 100000
def itemsB (l : List KV) : Bs := (l.map fun x => bytesB x.1 ++ bytesB x.2).flatten
theorem itemsB_take {l : List KV} {k : Nat} (h : k < l.length) : itemsB (l.take (k + 1)) = itemsB (l.take k) ++ bytesB l[k].1 ++ bytesB l[k].2 := by
  rw [List.take_succ_eq_append_getElem h]; simp only [itemsB, List.map_append, List.flatten_append, List.map_cons, List.map_nil, List.flatten_cons, List.flatten_nil, List.append_nil, List.append_assoc]
theorem itemsB_le {l : List KV} (h : ∀ x ∈ l, KVok x) : (itemsB l).length ≤ l.length * 1868 := by
  induction l with
  | nil => simp [itemsB]
  | cons x l ih =>
    have h1 := h x (by simp)
    have h2 := ih (fun y hy => h y (List.mem_cons_of_mem _ hy))
    have u1 := uintB_length x.1.length
    have u2 := uintB_length x.2.length
    unfold KVok at h1
    simp only [itemsB, List.map_cons, List.flatten_cons, List.length_append, bytesB, List.length_cons] at h2 ⊢
    omega
def idsB (ids : List Nat) : Bs := (ids.map uintB).flatten
theorem idsB_take {l : List Nat} {k : Nat} (h : k < l.length) : idsB (l.take (k + 1)) = idsB (l.take k) ++ uintB l[k] := by
  rw [List.take_succ_eq_append_getElem h]; simp only [idsB, List.map_append, List.flatten_append, List.map_cons, List.map_nil, List.flatten_cons, List.flatten_nil, List.append_nil, List.append_assoc]
theorem idsB_le (l : List Nat) : (idsB l).length ≤ l.length * 2 := by
  induction l with
  | nil => simp [idsB]
  | cons x l ih =>
    have u1 := uintB_length x
    simp only [idsB, List.map_cons, List.flatten_cons, List.length_append, List.length_cons] at ih ⊢
    omega
theorem encB_eq (l : List KV) (ids : List Nat) : encB l ids = (if ids = [] then 1 else 2) :: uintB l.length ++ itemsB l ++ idsB ids := rfl
theorem items_calls {F : Nat → Prop} {w : World} {n g o id : Nat} {l : List KV} {kvs : List Value} {v : Value} (h : NodeAt F w n g o id l kvs v) :
    ∃ lv, ItemsAt F w lv l ∧ ∀ w', Fr C0 w w' → Calls Try.prog 52 #[v] w' fun e w'' => e = .returned lv ∧ w' = w'' := by
  obtain ⟨lv, h0, h1, h2, h3⟩ := h
  refine ⟨lv, h2, fun w' hf => ?_⟩
  rcases h3 with ⟨_, rfl⟩ | ⟨_, rfl, _⟩
  · exact items_leaf n lv w' (hf.cell0 h1)
  · exact items_inner n lv w' (hf.cell0 h1)
theorem tbytes_leaf {F : Nat → Prop} {w : World} {n g o id : Nat} {l : List KV} {v : Value} (h : NodeAt F w n g o id l [] v) (hl : l.length ≤ 4) (hkv : ∀ x ∈ l, KVok x) :
    Calls Try.prog 67 #[v] w fun e w' => ∃ v', e = .returned v' ∧ Fr C0 w w' ∧ w'.ownsRow w.heap.size 5 1 v' (encB l []).length ((encB l []).map bv) := by
  obtain ⟨lv, hlv, hit⟩ := items_calls h
  have HIT := Lib.hid hit
  have hlv2 := hlv.mono (F' := fun b => b < w.heap.size) (fun b _ h => h)
  obtain ⟨_, h0, h1, h2, h3⟩ := h
  obtain ⟨A, c, rfl, hc1, hc2, hc3⟩ := hlv2
  have HC3 := Lib.hid hc3
  have HKV := Lib.hid hkv
  unfold maxLen at hc2
  clear hit h0 h1 h2 hc3 hlv hkv
  rcases h3 with ⟨_, rfl⟩ | ⟨hne, _⟩
  · go_enter Try.func67, Try.ntmps67
    go_wp2_with fail
    refine (HIT.out _ (Fr.refl _ _)).mono ?_
    rintro e w1 ⟨rfl, rfl⟩
    go_wp2_with fail
    refine (uint_calls l.length (by omega) _).mono ?_
    rintro e w2 ⟨v2, rfl, f2, o2⟩
    have F2 := Lib.hid (((Fr.refl C0 w).alloc (.cells #[.int .u8 1] 5)).trans0 f2)
    have hsz2 := f2.size
    have OL := Lib.hid (own_kept (World.ownsRow_lit w #[bv 1] (e := 5) (size := 1) 1 (Nat.le_refl _) (by unfold maxLen; omega) rfl) f2 (fun _ _ h => h))
    have OU := Lib.hid o2
    have hu2 := uintB_length l.length
    clear f2 o2
    have hsz2' : w.heap.size + 1 ≤ w2.heap.size := by simpa using hsz2
    go_wp2_with (at_builtin; refine wpl_app sl_u8 rfl _ _ rfl (v := .slice (some ⟨w.heap.size, 0, none⟩) 1 1) (xv := v2) rfl rfl OL.out (Row.ofOwn OU.out (F := fun _ => True) (fun _ _ => trivial)) (oneCell_bv _) (by unfold maxLen; omega) (by omega) (by omega) ?_; intro v3 w3 o3 f3 k3 nil3)
    have F3 := Lib.hid (F2.out.transO f3 (fun b e => by simp [Value.ownBlock] at e; omega))
    have O3 : Hid (w3.ownsRow w.heap.size 5 1 v3 (1 :: uintB l.length ++ itemsB (l.take 0)).length ((1 :: uintB l.length ++ itemsB (l.take 0)).map bv)) := Lib.hid (by simpa [itemsB, Nat.add_comm] using o3)
    clear o3 f3 k3 nil3 OL OU F2 hsz2
    go_loopw [4, 8, 29] (fun b _ i wr => ∃ k : Nat, k ≤ l.length ∧ i = .int .i64 (k : Int) ∧ Hid (Fr C0 w wr) ∧ Hid (wr.ownsRow w.heap.size 5 1 b (1 :: uintB l.length ++ itemsB (l.take k)).length ((1 :: uintB l.length ++ itemsB (l.take k)).map bv))) (fun _ _ i _ => l.length - (intOf i).toNat)
    case atStart => exact ⟨0, Nat.zero_le _, rfl, F3, O3⟩
    case round =>
      obtain ⟨k, hk, rfl, HF, HO⟩ := hrel
      by_cases hlt : k < l.length
      · obtain ⟨g, o, rfl, hFg, hc⟩ := HC3.out (by intro h; subst h; simp at hlt)
        obtain ⟨kv, vv, d1, d2, d3, d4⟩ := hc k hlt
        have d1' := HF.out.cell0 d1
        have d2' := HF.out.cell0 d2
        obtain ⟨kA, kc, rfl, -⟩ := (show _ from d3)
        obtain ⟨vA, vc, rfl, -⟩ := (show _ from d4)
        have HK := Lib.hid d3
        have HV := Lib.hid d4
        have hx := HKV.out l[k] (List.getElem_mem hlt)
        have hle := itemsB_le (l := l.take k) (fun x hx => HKV.out x (List.mem_of_mem_take hx))
        have hlen : (l.take k).length ≤ 4 := by rw [List.length_take]; omega
        have hszr := HF.out.size
        have hob := fun b e => HO.out.lt b e
        have hLl : (1 :: uintB l.length ++ itemsB (l.take k)).length ≤ 7500 := by simp only [List.length_append, List.length_cons]; omega
        have hstep : Hid (1 :: uintB l.length ++ itemsB (l.take (k + 1)) = (1 :: uintB l.length ++ itemsB (l.take k)) ++ bytesB l[k].1 ++ bytesB l[k].2) := Lib.hid (by rw [itemsB_take hlt]; simp only [List.append_assoc, List.cons_append])
        unfold KVok at hx
        have hb1 := uintB_length l[k].1.length
        have hb2 := uintB_length l[k].2.length
        have hB1 : (bytesB l[k].1).length ≤ 70 := by simp only [bytesB, List.length_append]; omega
        have hB2 : (bytesB l[k].2).length ≤ 1810 := by simp only [bytesB, List.length_append]; omega
        generalize 1 :: uintB l.length ++ itemsB (l.take k) = L at *
        clear d1 d2 d3 d4 hc hb1 hb2 hlen
        go_wp2_with fail
        have q0 : (wr.alloc (.cells #[.slice kA l[k].1.length kc, .slice vA l[k].2.length vc] 62)).cell? ⟨wr.heap.size, 0, none⟩ = some (.slice kA l[k].1.length kc) := blk_cell (heap_alloc_new _ _) 0 rfl
        have q1 : (wr.alloc (.cells #[.slice kA l[k].1.length kc, .slice vA l[k].2.length vc] 62)).cell? ⟨wr.heap.size, 1, none⟩ = some (.slice vA l[k].2.length vc) := blk_cell (heap_alloc_new _ _) 1 rfl
        have hnb : ¬ u4.ownBlock = some wr.heap.size := fun e => by have := (hob _ e).2; omega
        have FW := Lib.hid (HF.out.alloc (.cells #[.slice kA l[k].1.length kc, .slice vA l[k].2.length vc] 62))
        have FRW := Lib.hid ((Fr.refl C0 wr).alloc (.cells #[.slice kA l[k].1.length kc, .slice vA l[k].2.length vc] 62))
        have hszW := FRW.out.size
        refine wp_region_L (Fr (fun b => u4.ownBlock = some b) (wr.alloc (.cells #[.slice kA l[k].1.length kc, .slice vA l[k].2.length vc] 62))) [] (by kernel_rfl) ?_
        have hSw0 : (Fr (fun b => u4.ownBlock = some b) (wr.alloc (.cells #[.slice kA l[k].1.length kc, .slice vA l[k].2.length vc] 62))) _ := (Fr.refl _ _).drew
        refine tk 0 ⟨(some 33), (.move (.tmp 4)), 23, "page.go:46", #[], none⟩ hSw0 ?_
        refine tk 1 ⟨(some 34), (.fieldAddr 62 (.tmp 8) 0), 0, "page.go:46", #[], none⟩ hSw0 ?_
        refine tk 2 ⟨(some 35), (.load 23 (.tmp 34)), 23, "page.go:46", #[⟨1, .data⟩], none⟩ hSw0 ?_ (by intro w_ hS_; have b0 := hS_.cell q0 hnb; have b1 := hS_.cell q1 hnb; first | (go_simp; done) | (go_simp; with_reducible rfl))
        refine tk 5 ⟨(some 38), (.fieldAddr 62 (.tmp 8) 1), 0, "page.go:46", #[], none⟩ hSw0 ?_
        refine tk 6 ⟨(some 39), (.load 23 (.tmp 38)), 23, "page.go:46", #[⟨5, .data⟩], none⟩ hSw0 ?_ (by intro w_ hS_; have b0 := hS_.cell q0 hnb; have b1 := hS_.cell q1 hnb; first | (go_simp; done) | (go_simp; with_reducible rfl))
        refine one_ 3 ⟨(some 36), (.call ⟨(.value (.func 90)), #[(.tmp 35)], #[23]⟩), 23, "page.go:46", #[⟨2, .data⟩], none⟩ (fun K hK => ?_)
        go_simp
        refine (bytes_calls (HK.out.fr0 FW.out.drew) (by omega)).mono ?_
        rintro e w5 ⟨v5, rfl, f5, o5⟩
        simp only []
        have O5 := Lib.hid o5
        have G5 := Lib.hid (FW.out.drew.trans0 f5)
        have R5 := Lib.hid (FRW.out.drew.trans0 f5)
        have S5 := Lib.hid ((Fr.refl (fun b => u4.ownBlock = some b) (wr.alloc (.cells #[.slice kA l[k].1.length kc, .slice vA l[k].2.length vc] 62))).drew.trans0 f5)
        have hsz5 := R5.out.size
        have hszS := S5.out.size
        clear f5 o5
        refine hK.out _ _ ?kS1 (fun hSw1 => ?kR1)
        case kS1 => exact S5.out
        clear hK K
        try simp only [Act.put, List.setIfInBounds_toArray, List.set_cons_zero, List.set_cons_succ]
        refine one_ 4 ⟨(some 37), (.call ⟨(.builtin .append), #[(.tmp 33), (.tmp 36)], #[23, 23]⟩), 23, "page.go:46", #[⟨0, .data⟩, ⟨3, .data⟩, ⟨3, .chain⟩], none⟩ (fun K hK => ?_)
        refine wp_app sl_u8 _ _ rfl (v := u4) (xv := v5) rfl rfl (own_kept HO.out R5.out (fun _ _ h => h)) (Row.ofOwn O5.out (F := fun _ => True) (fun _ _ => trivial)) (oneCell_bv _) (by unfold maxLen; omega) (by omega) (by omega) ?_
        intro v6 w6 o6 f6 k6 nil6
        have O6 := Lib.hid o6
        have S6 := Lib.hid (S5.out.trans f6 (fun _ _ h => h))
        have G6 := Lib.hid (G5.out.transO f6 (fun b e => (hob b e).1))
        have hsz6 := f6.size
        have K6 := Lib.hid k6
        clear o6 f6 k6 nil6
        refine hK.out _ _ ?kS2 (fun hSw2 => ?kR2)
        case kS2 => exact S6.out
        clear hK K
        try simp only [Act.put, List.setIfInBounds_toArray, List.set_cons_zero, List.set_cons_succ]
        refine one_ 7 ⟨(some 40), (.call ⟨(.value (.func 90)), #[(.tmp 39)], #[23]⟩), 23, "page.go:46", #[⟨6, .data⟩, ⟨4, .chain⟩], none⟩ (fun K hK => ?_)
        go_simp
        refine (bytes_calls (HV.out.fr0 G6.out) (by omega)).mono ?_
        rintro e w7 ⟨v7, rfl, f7, o7⟩
        simp only []
        have O7 := Lib.hid o7
        have O67 := Lib.hid (own_kept O6.out f7 (fun _ _ h => h))
        have S7 := Lib.hid (S6.out.trans0 f7)
        have G7 := Lib.hid (G6.out.trans0 f7)
        have hsz7 := f7.size
        clear f7 o7
        refine hK.out _ _ ?kS3 (fun hSw3 => ?kR3)
        case kS3 => exact S7.out
        clear hK K
        try simp only [Act.put, List.setIfInBounds_toArray, List.set_cons_zero, List.set_cons_succ]
        refine one_ 8 ⟨(some 41), (.call ⟨(.builtin .append), #[(.tmp 37), (.tmp 40)], #[23, 23]⟩), 23, "page.go:46", #[⟨4, .data⟩, ⟨7, .data⟩, ⟨7, .chain⟩], none⟩ (fun K hK => ?_)
        refine wp_app sl_u8 _ _ rfl (v := v6) (xv := v7) rfl rfl O67.out (Row.ofOwn O7.out (F := fun _ => True) (fun _ _ => trivial)) (oneCell_bv _) (by unfold maxLen; omega) (by omega) (by omega) ?_
        intro v8 w8 o8 f8 k8 nil8
        have O8 := Lib.hid o8
        have G8 := Lib.hid (G7.out.transO f8 (fun b e => (O67.out.lt b e).1))
        have S8 := Lib.hid (S7.out.trans f8 (fun b hb e => (K6.out b e).elim (fun h => h) (fun h => by omega)))
        clear o8 f8 k8 nil8
        refine hK.out _ _ ?kS4 (fun hSw4 => ?kR4)
        case kS4 => exact S8.out
        clear hK K
        try simp only [Act.put, List.setIfInBounds_toArray, List.set_cons_zero, List.set_cons_succ]
        refine tk 9 ⟨(some 4), (.assign (.tmp 41)), 23, "page.go:46", #[⟨8, .data⟩, ⟨8, .chain⟩, ⟨0, .phase⟩, ⟨1, .phase⟩, ⟨2, .phase⟩, ⟨3, .phase⟩, ⟨4, .phase⟩, ⟨5, .phase⟩, ⟨6, .phase⟩, ⟨7, .phase⟩, ⟨8, .phase⟩], none⟩ hSw4 ?_
        refine wpAnyL_done (by kernel_rfl) ?_ _
        go_wp2
        go_roundw
        case rel =>
          refine ⟨k + 1, by omega, by go_num, G8, ?_⟩
          refine Lib.hid ?_
          rw [hstep.out]
          simpa [Nat.add_assoc] using O8.out
        case measure => simp [intOf]; omega
      · obtain rfl : k = l.length := by omega
        go_wp2
        go_ret
        refine ⟨u4, rfl, HF.out, ?_⟩
        have := HO.out
        rw [List.take_length] at this
        simpa [encB_eq, idsB] using this
  · exact absurd rfl hne
theorem tbytes_inner {F : Nat → Prop} {w : World} {n g o id : Nat} {l : List KV} {kvs : List Value} {ids : List Nat} {v : Value} (h : NodeAt F w n g o id l kvs v) (hk0 : kvs ≠ []) (hn : Nums w kvs ids) (hl : l.length ≤ 4) (hkv : ∀ x ∈ l, KVok x) (hids : ids.length ≤ 5) (hidb : ∀ k ∈ ids, k < 16384) :
    Calls Try.prog 67 #[v] w fun e w' => ∃ v', e = .returned v' ∧ Fr C0 w w' ∧ w'.ownsRow w.heap.size 5 1 v' (encB l ids).length ((encB l ids).map bv) := by
  obtain ⟨lv, hlv, hit⟩ := items_calls h
  have HIT := Lib.hid hit
  have hlv2 := hlv.mono (F' := fun b => b < w.heap.size) (fun b _ h => h)
  obtain ⟨_, h0, h1, h2, h3⟩ := h
  obtain ⟨A, c, rfl, hc1, hc2, hc3⟩ := hlv2
  have HC3 := Lib.hid hc3
  have HKV := Lib.hid hkv
  unfold maxLen at hc2
  clear hit h0 h1 h2 hc3 hlv hkv
  have HN := Lib.hid hn
  have HIB := Lib.hid hidb
  have hkl := All2.length hn
  clear hn hidb
  have hids0 : ids ≠ [] := fun e => hk0 (by rw [e] at hkl; simpa using hkl)
  rcases h3 with ⟨e, _⟩ | ⟨hne, rfl, kc, k0, k1, k2, k3⟩
  · exact absurd e hk0
  · go_enter Try.func67, Try.ntmps67
    go_wp2_with fail
    refine (HIT.out _ (Fr.refl _ _)).mono ?_
    rintro e w1 ⟨rfl, rfl⟩
    have HK3 := Lib.hid k3
    have HK0 := Lib.hid k0
    clear k3 k0
    have c0 : (w.alloc (.cells #[.int .u8 1] 5)).cell? ⟨w.heap.size, 0, none⟩ = some (.int .u8 1) := blk_cell (heap_alloc_new _ _) 0 rfl
    have z0 : (w.alloc (.cells #[.int .u8 1] 5)).frozen? ⟨w.heap.size, 0, none⟩ = false := blk_free 0 (heap_alloc_new _ _)
    go_wp2_with fail
    refine (uint_calls l.length (by omega) _).mono ?_
    rintro e w2 ⟨v2, rfl, f2, o2⟩
    have F2 := Lib.hid (((Fr.refl C0 w).alloc (.cells #[.int .u8 2] 5)).trans0 f2)
    have hsz2 := f2.size
    have OL := Lib.hid (own_kept (World.ownsRow_lit w #[bv 2] (e := 5) (size := 1) 1 (Nat.le_refl _) (by unfold maxLen; omega) rfl) f2 (fun _ _ h => h))
    have OU := Lib.hid o2
    have hu2 := uintB_length l.length
    clear f2 o2
    have hsz2' : w.heap.size + 1 ≤ w2.heap.size := by simpa using hsz2
    go_wp2_with (at_builtin; refine wpl_app sl_u8 rfl _ _ rfl (v := .slice (some ⟨w.heap.size, 0, none⟩) 1 1) (xv := v2) rfl rfl OL.out (Row.ofOwn OU.out (F := fun _ => True) (fun _ _ => trivial)) (oneCell_bv _) (by unfold maxLen; omega) (by omega) (by omega) ?_; intro v3 w3 o3 f3 k3 nil3)
    have F3 := Lib.hid (F2.out.transO f3 (fun b e => by simp [Value.ownBlock] at e; omega))
    have O3 : Hid (w3.ownsRow w.heap.size 5 1 v3 (2 :: uintB l.length ++ itemsB (l.take 0)).length ((2 :: uintB l.length ++ itemsB (l.take 0)).map bv)) := Lib.hid (by simpa [itemsB, Nat.add_comm] using o3)
    clear o3 f3 k3 nil3 OL OU F2 hsz2
    go_loopw [4, 8, 29] (fun b _ i wr => ∃ k : Nat, k ≤ l.length ∧ i = .int .i64 (k : Int) ∧ Hid (Fr C0 w wr) ∧ Hid (wr.ownsRow w.heap.size 5 1 b (2 :: uintB l.length ++ itemsB (l.take k)).length ((2 :: uintB l.length ++ itemsB (l.take k)).map bv))) (fun _ _ i _ => l.length - (intOf i).toNat)
    case atStart => exact ⟨0, Nat.zero_le _, rfl, F3, O3⟩
    case round =>
      obtain ⟨k, hk, rfl, HF, HO⟩ := hrel
      by_cases hlt : k < l.length
      · obtain ⟨g, o, rfl, hFg, hc⟩ := HC3.out (by intro h; subst h; simp at hlt)
        obtain ⟨kv, vv, d1, d2, d3, d4⟩ := hc k hlt
        have d1' := HF.out.cell0 d1
        have d2' := HF.out.cell0 d2
        obtain ⟨kA, kc, rfl, -⟩ := (show _ from d3)
        obtain ⟨vA, vc, rfl, -⟩ := (show _ from d4)
        have HK := Lib.hid d3
        have HV := Lib.hid d4
        have hx := HKV.out l[k] (List.getElem_mem hlt)
        have hle := itemsB_le (l := l.take k) (fun x hx => HKV.out x (List.mem_of_mem_take hx))
        have hlen : (l.take k).length ≤ 4 := by rw [List.length_take]; omega
        have hszr := HF.out.size
        have hob := fun b e => HO.out.lt b e
        have hLl : (2 :: uintB l.length ++ itemsB (l.take k)).length ≤ 7500 := by simp only [List.length_append, List.length_cons]; omega
        have hstep : Hid (2 :: uintB l.length ++ itemsB (l.take (k + 1)) = (2 :: uintB l.length ++ itemsB (l.take k)) ++ bytesB l[k].1 ++ bytesB l[k].2) := Lib.hid (by rw [itemsB_take hlt]; simp only [List.append_assoc, List.cons_append])
        unfold KVok at hx
        have hb1 := uintB_length l[k].1.length
        have hb2 := uintB_length l[k].2.length
        have hB1 : (bytesB l[k].1).length ≤ 70 := by simp only [bytesB, List.length_append]; omega
        have hB2 : (bytesB l[k].2).length ≤ 1810 := by simp only [bytesB, List.length_append]; omega
        generalize 2 :: uintB l.length ++ itemsB (l.take k) = L at *
        clear d1 d2 d3 d4 hc hb1 hb2 hlen
        go_wp2_with fail
        have q0 : (wr.alloc (.cells #[.slice kA l[k].1.length kc, .slice vA l[k].2.length vc] 62)).cell? ⟨wr.heap.size, 0, none⟩ = some (.slice kA l[k].1.length kc) := blk_cell (heap_alloc_new _ _) 0 rfl
        have q1 : (wr.alloc (.cells #[.slice kA l[k].1.length kc, .slice vA l[k].2.length vc] 62)).cell? ⟨wr.heap.size, 1, none⟩ = some (.slice vA l[k].2.length vc) := blk_cell (heap_alloc_new _ _) 1 rfl
        have hnb : ¬ u4.ownBlock = some wr.heap.size := fun e => by have := (hob _ e).2; omega
        have FW := Lib.hid (HF.out.alloc (.cells #[.slice kA l[k].1.length kc, .slice vA l[k].2.length vc] 62))
        have FRW := Lib.hid ((Fr.refl C0 wr).alloc (.cells #[.slice kA l[k].1.length kc, .slice vA l[k].2.length vc] 62))
        have hszW := FRW.out.size
        refine wp_region_L (Fr (fun b => u4.ownBlock = some b) (wr.alloc (.cells #[.slice kA l[k].1.length kc, .slice vA l[k].2.length vc] 62))) [] (by kernel_rfl) ?_
        have hSw0 : (Fr (fun b => u4.ownBlock = some b) (wr.alloc (.cells #[.slice kA l[k].1.length kc, .slice vA l[k].2.length vc] 62))) _ := (Fr.refl _ _).drew
        refine tk 0 ⟨(some 33), (.move (.tmp 4)), 23, "page.go:46", #[], none⟩ hSw0 ?_
        refine tk 1 ⟨(some 34), (.fieldAddr 62 (.tmp 8) 0), 0, "page.go:46", #[], none⟩ hSw0 ?_
        refine tk 2 ⟨(some 35), (.load 23 (.tmp 34)), 23, "page.go:46", #[⟨1, .data⟩], none⟩ hSw0 ?_ (by intro w_ hS_; have b0 := hS_.cell q0 hnb; have b1 := hS_.cell q1 hnb; first | (go_simp; done) | (go_simp; with_reducible rfl))
        refine tk 5 ⟨(some 38), (.fieldAddr 62 (.tmp 8) 1), 0, "page.go:46", #[], none⟩ hSw0 ?_
        refine tk 6 ⟨(some 39), (.load 23 (.tmp 38)), 23, "page.go:46", #[⟨5, .data⟩], none⟩ hSw0 ?_ (by intro w_ hS_; have b0 := hS_.cell q0 hnb; have b1 := hS_.cell q1 hnb; first | (go_simp; done) | (go_simp; with_reducible rfl))
        refine one_ 3 ⟨(some 36), (.call ⟨(.value (.func 90)), #[(.tmp 35)], #[23]⟩), 23, "page.go:46", #[⟨2, .data⟩], none⟩ (fun K hK => ?_)
        go_simp
        refine (bytes_calls (HK.out.fr0 FW.out.drew) (by omega)).mono ?_
        rintro e w5 ⟨v5, rfl, f5, o5⟩
        simp only []
        have O5 := Lib.hid o5
        have G5 := Lib.hid (FW.out.drew.trans0 f5)
        have R5 := Lib.hid (FRW.out.drew.trans0 f5)
        have S5 := Lib.hid ((Fr.refl (fun b => u4.ownBlock = some b) (wr.alloc (.cells #[.slice kA l[k].1.length kc, .slice vA l[k].2.length vc] 62))).drew.trans0 f5)
        have hsz5 := R5.out.size
        have hszS := S5.out.size
        clear f5 o5
        refine hK.out _ _ ?kS5 (fun hSw1 => ?kR5)
        case kS5 => exact S5.out
        clear hK K
        try simp only [Act.put, List.setIfInBounds_toArray, List.set_cons_zero, List.set_cons_succ]
        refine one_ 4 ⟨(some 37), (.call ⟨(.builtin .append), #[(.tmp 33), (.tmp 36)], #[23, 23]⟩), 23, "page.go:46", #[⟨0, .data⟩, ⟨3, .data⟩, ⟨3, .chain⟩], none⟩ (fun K hK => ?_)
        refine wp_app sl_u8 _ _ rfl (v := u4) (xv := v5) rfl rfl (own_kept HO.out R5.out (fun _ _ h => h)) (Row.ofOwn O5.out (F := fun _ => True) (fun _ _ => trivial)) (oneCell_bv _) (by unfold maxLen; omega) (by omega) (by omega) ?_
        intro v6 w6 o6 f6 k6 nil6
        have O6 := Lib.hid o6
        have S6 := Lib.hid (S5.out.trans f6 (fun _ _ h => h))
        have G6 := Lib.hid (G5.out.transO f6 (fun b e => (hob b e).1))
        have hsz6 := f6.size
        have K6 := Lib.hid k6
        clear o6 f6 k6 nil6
        refine hK.out _ _ ?kS6 (fun hSw2 => ?kR6)
        case kS6 => exact S6.out
        clear hK K
        try simp only [Act.put, List.setIfInBounds_toArray, List.set_cons_zero, List.set_cons_succ]
        refine one_ 7 ⟨(some 40), (.call ⟨(.value (.func 90)), #[(.tmp 39)], #[23]⟩), 23, "page.go:46", #[⟨6, .data⟩, ⟨4, .chain⟩], none⟩ (fun K hK => ?_)
        go_simp
        refine (bytes_calls (HV.out.fr0 G6.out) (by omega)).mono ?_
        rintro e w7 ⟨v7, rfl, f7, o7⟩
        simp only []
        have O7 := Lib.hid o7
        have O67 := Lib.hid (own_kept O6.out f7 (fun _ _ h => h))
        have S7 := Lib.hid (S6.out.trans0 f7)
        have G7 := Lib.hid (G6.out.trans0 f7)
        have hsz7 := f7.size
        clear f7 o7
        refine hK.out _ _ ?kS7 (fun hSw3 => ?kR7)
        case kS7 => exact S7.out
        clear hK K
        try simp only [Act.put, List.setIfInBounds_toArray, List.set_cons_zero, List.set_cons_succ]
        refine one_ 8 ⟨(some 41), (.call ⟨(.builtin .append), #[(.tmp 37), (.tmp 40)], #[23, 23]⟩), 23, "page.go:46", #[⟨4, .data⟩, ⟨7, .data⟩, ⟨7, .chain⟩], none⟩ (fun K hK => ?_)
        refine wp_app sl_u8 _ _ rfl (v := v6) (xv := v7) rfl rfl O67.out (Row.ofOwn O7.out (F := fun _ => True) (fun _ _ => trivial)) (oneCell_bv _) (by unfold maxLen; omega) (by omega) (by omega) ?_
        intro v8 w8 o8 f8 k8 nil8
        have O8 := Lib.hid o8
        have G8 := Lib.hid (G7.out.transO f8 (fun b e => (O67.out.lt b e).1))
        have S8 := Lib.hid (S7.out.trans f8 (fun b hb e => (K6.out b e).elim (fun h => h) (fun h => by omega)))
        clear o8 f8 k8 nil8
        refine hK.out _ _ ?kS8 (fun hSw4 => ?kR8)
        case kS8 => exact S8.out
        clear hK K
        try simp only [Act.put, List.setIfInBounds_toArray, List.set_cons_zero, List.set_cons_succ]
        refine tk 9 ⟨(some 4), (.assign (.tmp 41)), 23, "page.go:46", #[⟨8, .data⟩, ⟨8, .chain⟩, ⟨0, .phase⟩, ⟨1, .phase⟩, ⟨2, .phase⟩, ⟨3, .phase⟩, ⟨4, .phase⟩, ⟨5, .phase⟩, ⟨6, .phase⟩, ⟨7, .phase⟩, ⟨8, .phase⟩], none⟩ hSw4 ?_
        refine wpAnyL_done (by kernel_rfl) ?_ _
        go_wp2
        go_roundw
        case rel =>
          refine ⟨k + 1, by omega, by go_num, G8, ?_⟩
          refine Lib.hid ?_
          rw [hstep.out]
          simpa [Nat.add_assoc] using O8.out
        case measure => simp [intOf]; omega
      · obtain rfl : k = l.length := by omega
        have k0' := HF.out.cell0 HK0.out
        have HO1 := HO
        rw [List.take_length] at HO1
        have HF1 := HF
        have hsL : (2 :: uintB l.length ++ itemsB l).length ≤ 7500 := by
          have hle := itemsB_le (l := l) HKV.out
          have hb1 := uintB_length l.length
          simp only [List.length_append, List.length_cons]; omega
        have HL1 : Hid (∃ L', L' = 2 :: uintB l.length ++ itemsB l) := Lib.hid ⟨_, rfl⟩
        obtain ⟨L, hL⟩ := HL1.out
        rw [← hL] at HO1 hsL
        have HL1 := Lib.hid hL
        clear HO HF hL
        go_wp2
        go_loopw [4, 10, 49] (fun b _ i wr2 => ∃ k : Nat, k ≤ ids.length ∧ i = .int .i64 (k : Int) ∧ Hid (Fr C0 w wr2) ∧ Hid (wr2.ownsRow w.heap.size 5 1 b (L ++ idsB (ids.take k)).length ((L ++ idsB (ids.take k)).map bv))) (fun _ _ i _ => ids.length - (intOf i).toNat)
        case atStart => exact ⟨0, Nat.zero_le _, rfl, HF1, Lib.hid (by simpa [idsB] using HO1.out)⟩
        case round =>
          obtain ⟨k, hk, rfl, HF, HO⟩ := hrel
          by_cases hlt : k < ids.length
          · have hltk : k < kvs.length := by omega
            have hu := HK3.out k kvs[k] (by simp [hltk])
            have hu' := HF.out.cell0 hu
            have HNK := Lib.hid (All2.get k hltk hlt HN.out)
            have hib := HIB.out _ (List.getElem_mem hlt)
            have hle := idsB_le (ids.take k)
            have hlen : (ids.take k).length ≤ 5 := by rw [List.length_take]; omega
            have hLl : (L ++ idsB (ids.take k)).length ≤ 7600 := by simp only [List.length_append]; omega
            have hstep : Hid (L ++ idsB (ids.take (k + 1)) = (L ++ idsB (ids.take k)) ++ uintB ids[k]) := Lib.hid (by rw [idsB_take hlt]; simp only [List.append_assoc])
            have hb1 := uintB_length ids[k]
            generalize L ++ idsB (ids.take k) = M at *
            generalize kvs[k] = u at *
            clear hu hle hlen
            go_wp2_with fail
            refine (num_calls (HNK.out.fr0 HF.out)).mono ?_
            rintro e w5 ⟨rfl, rfl⟩
            go_wp2_with fail
            refine (uint_calls ids[k] (by omega) _).mono ?_
            rintro e w5 ⟨v5, rfl, f5, o5⟩
            have O5 := Lib.hid o5
            have G5 := Lib.hid (HF.out.trans0 f5)
            have OL5 := Lib.hid (own_kept HO.out f5 (fun _ _ h => h))
            have hsz5 := G5.out.size
            clear f5 o5
            go_wp2_with (at_builtin; refine wpl_app sl_u8 rfl _ _ rfl (v := u4) (xv := v5) rfl rfl OL5.out (Row.ofOwn O5.out (F := fun _ => True) (fun _ _ => trivial)) (oneCell_bv _) (by unfold maxLen; omega) (by omega) (by omega) ?_; intro v6 w6 o6 f6 k6 nil6)
            have G6 := Lib.hid (G5.out.transO f6 (fun b e => (OL5.out.lt b e).1))
            have O6 := Lib.hid o6
            clear o6 f6 k6 nil6
            go_roundw
            case rel =>
              refine ⟨k + 1, by omega, by go_num, G6, ?_⟩
              refine Lib.hid ?_
              rw [hstep.out]
              simpa using O6.out
            case measure => simp [intOf]; omega
          · obtain rfl : k = ids.length := by omega
            go_wp2
            go_ret
            refine ⟨_, rfl, HF.out, ?_⟩
            have := HO.out
            rw [List.take_length] at this
            rw [encB_eq, if_neg hids0]
            exact HL1.out ▸ this
end Go.Proofs.Ytcmicdcikechkaa
end
