import Derived.Test.YtcmicdcikechkaaPieces12
import Derived.Test.YtcmicdcikechkaaPieces04
set_option linter.all false
section
namespace Go.Proofs.Ytcmicdcikechkaa
open Go.RowKit Go.H
set_option maxHeartbeats 1000000
set_option maxRecDepth 100000
def itemsB (l : List KV) : Bs := (l.map fun x => bytesB x.1 ++ bytesB x.2).flatten
theorem itemsB_take {l : List KV} {k : Nat} (h : k < l.length) : itemsB (l.take (k + 1)) = itemsB (l.take k) ++ bytesB l[k].1 ++ bytesB l[k].2 := by
  rw [List.take_succ_eq_append_getElem h]; simp only [itemsB, List.map_append, List.flatten_append, List.map_cons, List.map_nil, List.flatten_cons, List.flatten_nil, List.append_nil, List.append_assoc]
theorem itemsB_le {l : List KV} (h : ∀ x ∈ l, KVok x) : (itemsB l).length ≤ l.length * 1868 := by
  induction l with
  | nil => simp [itemsB]
  | cons x l ih =>
    have h1 := h x (by simp)
    have h2 := ih (fun y hy => h y (List.mem_cons_of_mem _ hy))
    have u1 := uintB_length x.1.length
    have u2 := uintB_length x.2.length
    unfold KVok at h1
    simp only [itemsB, List.map_cons, List.flatten_cons, List.length_append, bytesB, List.length_cons] at h2 ⊢
    omega
def idsB (ids : List Nat) : Bs := (ids.map uintB).flatten
theorem idsB_take {l : List Nat} {k : Nat} (h : k < l.length) : idsB (l.take (k + 1)) = idsB (l.take k) ++ uintB l[k] := by
  rw [List.take_succ_eq_append_getElem h]; simp only [idsB, List.map_append, List.flatten_append, List.map_cons, List.map_nil, List.flatten_cons, List.flatten_nil, List.append_nil, List.append_assoc]
theorem idsB_le (l : List Nat) : (idsB l).length ≤ l.length * 2 := by
  induction l with
  | nil => simp [idsB]
  | cons x l ih =>
    have u1 := uintB_length x
    simp only [idsB, List.map_cons, List.flatten_cons, List.length_append, List.length_cons] at ih ⊢
    omega
theorem encB_eq (l : List KV) (ids : List Nat) : encB l ids = (if ids = [] then 1 else 2) :: uintB l.length ++ itemsB l ++ idsB ids := rfl
theorem items_calls {F : Nat → Prop} {w : World} {n g o id : Nat} {l : List KV} {kvs : List Value} {v : Value} (h : NodeAt F w n g o id l kvs v) :
    ∃ lv, ItemsAt F w lv l ∧ ∀ w', Fr C0 w w' → Calls Try.prog 52 #[v] w' fun e w'' => e = .returned lv ∧ w' = w'' := by
  obtain ⟨lv, h0, h1, h2, h3⟩ := h
  refine ⟨lv, h2, fun w' hf => ?_⟩
  rcases h3 with ⟨_, rfl⟩ | ⟨_, rfl, _⟩
  · exact items_leaf n lv w' (hf.cell0 h1)
  · exact items_inner n lv w' (hf.cell0 h1)
theorem tbytes_leaf {F : Nat → Prop} {w : World} {n g o id : Nat} {l : List KV} {v : Value} (h : NodeAt F w n g o id l [] v) (hl : l.length ≤ 4) (hkv : ∀ x ∈ l, KVok x) :
    Calls Try.prog 67 #[v] w fun e w' => ∃ v', e = .returned v' ∧ Fr C0 w w' ∧ w'.ownsRow w.heap.size 5 1 v' (encB l []).length ((encB l []).map bv) := by
  obtain ⟨lv, hlv, hit⟩ := items_calls h
  have HIT := Lib.hid hit
  have hlv2 := hlv.mono (F' := fun b => b < w.heap.size) (fun b _ h => h)
  obtain ⟨_, h0, h1, h2, h3⟩ := h
  obtain ⟨A, c, rfl, hc1, hc2, hc3⟩ := hlv2
  have HC3 := Lib.hid hc3
  have HKV := Lib.hid hkv
  unfold maxLen at hc2
  clear hit h0 h1 h2 hc3 hlv hkv
  rcases h3 with ⟨_, rfl⟩ | ⟨hne, _⟩
  · go_enter Try.func67, Try.ntmps67
    go_wp2_with fail
    refine (HIT.out _ (Fr.refl _ _)).mono ?_
    rintro e w1 ⟨rfl, rfl⟩
    go_wp2_with fail
    refine (uint_calls l.length (by omega) _).mono ?_
    rintro e w2 ⟨v2, rfl, f2, o2⟩
    have F2 := Lib.hid (((Fr.refl C0 w).alloc (.cells #[.int .u8 1] 5)).trans0 f2)
    have hsz2 := f2.size
    have OL := Lib.hid (own_kept (World.ownsRow_lit w #[bv 1] (e := 5) (size := 1) 1 (Nat.le_refl _) (by unfold maxLen; omega) rfl) f2 (fun _ _ h => h))
    have OU := Lib.hid o2
    have hu2 := uintB_length l.length
    clear f2 o2
    have hsz2' : w.heap.size + 1 ≤ w2.heap.size := by simpa using hsz2
    go_wp2_with (at_builtin; refine wpl_app sl_u8 rfl _ _ rfl (v := .slice (some ⟨w.heap.size, 0, none⟩) 1 1) (xv := v2) rfl rfl OL.out (Row.ofOwn OU.out (F := fun _ => True) (fun _ _ => trivial)) (oneCell_bv _) (by unfold maxLen; omega) (by omega) (by omega) ?_; intro v3 w3 o3 f3 k3 nil3)
    have F3 := Lib.hid (F2.out.transO f3 (fun b e => by simp [Value.ownBlock] at e; omega))
    have O3 : Hid (w3.ownsRow w.heap.size 5 1 v3 (1 :: uintB l.length ++ itemsB (l.take 0)).length ((1 :: uintB l.length ++ itemsB (l.take 0)).map bv)) := Lib.hid (by simpa [itemsB, Nat.add_comm] using o3)
    clear o3 f3 k3 nil3 OL OU F2 hsz2
    go_loopw [4, 8, 29] (fun b _ i wr => ∃ k : Nat, k ≤ l.length ∧ i = .int .i64 (k : Int) ∧ Hid (Fr C0 w wr) ∧ Hid (wr.ownsRow w.heap.size 5 1 b (1 :: uintB l.length ++ itemsB (l.take k)).length ((1 :: uintB l.length ++ itemsB (l.take k)).map bv))) (fun _ _ i _ => l.length - (intOf i).toNat)
    case atStart => exact ⟨0, Nat.zero_le _, rfl, F3, O3⟩
    case round =>
      obtain ⟨k, hk, rfl, HF, HO⟩ := hrel
      by_cases hlt : k < l.length
      · obtain ⟨g, o, rfl, hFg, hc⟩ := HC3.out (by intro h; subst h; simp at hlt)
        obtain ⟨kv, vv, d1, d2, d3, d4⟩ := hc k hlt
        have d1' := HF.out.cell0 d1
        have d2' := HF.out.cell0 d2
        obtain ⟨kA, kc, rfl, -⟩ := (show _ from d3)
        obtain ⟨vA, vc, rfl, -⟩ := (show _ from d4)
        have HK := Lib.hid d3
        have HV := Lib.hid d4
        have hx := HKV.out l[k] (List.getElem_mem hlt)
        have hle := itemsB_le (l := l.take k) (fun x hx => HKV.out x (List.mem_of_mem_take hx))
        have hlen : (l.take k).length ≤ 4 := by rw [List.length_take]; omega
        have hszr := HF.out.size
        have hob := fun b e => HO.out.lt b e
        have hLl : (1 :: uintB l.length ++ itemsB (l.take k)).length ≤ 7500 := by simp only [List.length_append, List.length_cons]; omega
        have hstep : Hid (1 :: uintB l.length ++ itemsB (l.take (k + 1)) = (1 :: uintB l.length ++ itemsB (l.take k)) ++ bytesB l[k].1 ++ bytesB l[k].2) := Lib.hid (by rw [itemsB_take hlt]; simp only [List.append_assoc, List.cons_append])
        unfold KVok at hx
        have hb1 := uintB_length l[k].1.length
        have hb2 := uintB_length l[k].2.length
        have hB1 : (bytesB l[k].1).length ≤ 70 := by simp only [bytesB, List.length_append]; omega
        have hB2 : (bytesB l[k].2).length ≤ 1810 := by simp only [bytesB, List.length_append]; omega
        generalize 1 :: uintB l.length ++ itemsB (l.take k) = L at *
        clear d1 d2 d3 d4 hc hb1 hb2 hlen
        go_wp2_with fail
        have q0 : (wr.alloc (.cells #[.slice kA l[k].1.length kc, .slice vA l[k].2.length vc] 62)).cell? ⟨wr.heap.size, 0, none⟩ = some (.slice kA l[k].1.length kc) := blk_cell (heap_alloc_new _ _) 0 rfl
        have q1 : (wr.alloc (.cells #[.slice kA l[k].1.length kc, .slice vA l[k].2.length vc] 62)).cell? ⟨wr.heap.size, 1, none⟩ = some (.slice vA l[k].2.length vc) := blk_cell (heap_alloc_new _ _) 1 rfl
        have hnb : ¬ u4.ownBlock = some wr.heap.size := fun e => by have := (hob _ e).2; omega
        have FW := Lib.hid (HF.out.alloc (.cells #[.slice kA l[k].1.length kc, .slice vA l[k].2.length vc] 62))
        have FRW := Lib.hid ((Fr.refl C0 wr).alloc (.cells #[.slice kA l[k].1.length kc, .slice vA l[k].2.length vc] 62))
        have hszW := FRW.out.size
        refine wp_region_L (Fr (fun b => u4.ownBlock = some b) (wr.alloc (.cells #[.slice kA l[k].1.length kc, .slice vA l[k].2.length vc] 62))) [] (by kernel_rfl) ?_
        have hSw0 : (Fr (fun b => u4.ownBlock = some b) (wr.alloc (.cells #[.slice kA l[k].1.length kc, .slice vA l[k].2.length vc] 62))) _ := (Fr.refl _ _).drew
        refine wpAnyL_take 0 (oi := ⟨(some 33), (.move (.tmp 4)), 23, "page.go:46", #[], none⟩) (v := ?v_1) rfl (by kernel_rfl) (fun _ _ _ h => h) hSw0 (yieldsIf_of rfl ?hy_1) ?hrest_1
        case hy_1 => (intro w_ hS_; (first | (go_simp; done) | (go_simp; with_reducible rfl)))
        try simp only [Act.put, List.setIfInBounds_toArray, List.set_cons_zero, List.set_cons_succ]
        refine wpAnyL_take 1 (oi := ⟨(some 34), (.fieldAddr 62 (.tmp 8) 0), 0, "page.go:46", #[], none⟩) (v := ?v_2) rfl (by kernel_rfl) (fun _ _ _ h => h) hSw0 (yieldsIf_of rfl ?hy_2) ?hrest_2
        case hy_2 => (intro w_ hS_; (first | (go_simp; done) | (go_simp; with_reducible rfl)))
        try simp only [Act.put, List.setIfInBounds_toArray, List.set_cons_zero, List.set_cons_succ]
        refine wpAnyL_take 2 (oi := ⟨(some 35), (.load 23 (.tmp 34)), 23, "page.go:46", #[⟨1, .data⟩], none⟩) (v := ?v_3) rfl (by kernel_rfl) (fun _ _ _ h => h) hSw0 (yieldsIf_of rfl ?hy_3) ?hrest_3
        case hy_3 => (intro w_ hS_; have b0 := hS_.cell q0 hnb; have b1 := hS_.cell q1 hnb; (first | (go_simp; done) | (go_simp; with_reducible rfl)))
        try simp only [Act.put, List.setIfInBounds_toArray, List.set_cons_zero, List.set_cons_succ]
        refine wpAnyL_take 5 (oi := ⟨(some 38), (.fieldAddr 62 (.tmp 8) 1), 0, "page.go:46", #[], none⟩) (v := ?v_4) rfl (by kernel_rfl) (fun _ _ _ h => h) hSw0 (yieldsIf_of rfl ?hy_4) ?hrest_4
        case hy_4 => (intro w_ hS_; (first | (go_simp; done) | (go_simp; with_reducible rfl)))
        try simp only [Act.put, List.setIfInBounds_toArray, List.set_cons_zero, List.set_cons_succ]
        refine wpAnyL_take 6 (oi := ⟨(some 39), (.load 23 (.tmp 38)), 23, "page.go:46", #[⟨5, .data⟩], none⟩) (v := ?v_5) rfl (by kernel_rfl) (fun _ _ _ h => h) hSw0 (yieldsIf_of rfl ?hy_5) ?hrest_5
        case hy_5 => (intro w_ hS_; have b0 := hS_.cell q0 hnb; have b1 := hS_.cell q1 hnb; (first | (go_simp; done) | (go_simp; with_reducible rfl)))
        try simp only [Act.put, List.setIfInBounds_toArray, List.set_cons_zero, List.set_cons_succ]
        refine wpAnyL_one 3 (o := ⟨(some 36), (.call ⟨(.value (.func 90)), #[(.tmp 35)], #[23]⟩), 23, "page.go:46", #[⟨2, .data⟩], none⟩) rfl (by kernel_rfl) rfl (by kernel_rfl) (fun K hK => ?_)
        go_simp
        refine (bytes_calls (HK.out.fr0 FW.out.drew) (by omega)).mono ?_
        rintro e w5 ⟨v5, rfl, f5, o5⟩
        simp only []
        have O5 := Lib.hid o5
        have G5 := Lib.hid (FW.out.drew.trans0 f5)
        have R5 := Lib.hid (FRW.out.drew.trans0 f5)
        have S5 := Lib.hid ((Fr.refl (fun b => u4.ownBlock = some b) (wr.alloc (.cells #[.slice kA l[k].1.length kc, .slice vA l[k].2.length vc] 62))).drew.trans0 f5)
        have hsz5 := R5.out.size
        have hszS := S5.out.size
        clear f5 o5
        refine hK.out _ _ ?kS6 (fun hSw1 => ?kR6)
        case kS6 => exact S5.out
        clear hK K
        try simp only [Act.put, List.setIfInBounds_toArray, List.set_cons_zero, List.set_cons_succ]
        refine wpAnyL_one 4 (o := ⟨(some 37), (.call ⟨(.builtin .append), #[(.tmp 33), (.tmp 36)], #[23, 23]⟩), 23, "page.go:46", #[⟨0, .data⟩, ⟨3, .data⟩, ⟨3, .chain⟩], none⟩) rfl (by kernel_rfl) rfl (by kernel_rfl) (fun K hK => ?_)
        refine wp_app sl_u8 _ _ rfl (v := u4) (xv := v5) rfl rfl (own_kept HO.out R5.out (fun _ _ h => h)) (Row.ofOwn O5.out (F := fun _ => True) (fun _ _ => trivial)) (oneCell_bv _) (by unfold maxLen; omega) (by omega) (by omega) ?_
        intro v6 w6 o6 f6 k6 nil6
        have O6 := Lib.hid o6
        have S6 := Lib.hid (S5.out.trans f6 (fun _ _ h => h))
        have G6 := Lib.hid (G5.out.transO f6 (fun b e => (hob b e).1))
        have hsz6 := f6.size
        have K6 := Lib.hid k6
        clear o6 f6 k6 nil6
        refine hK.out _ _ ?kS7 (fun hSw2 => ?kR7)
        case kS7 => exact S6.out
        clear hK K
        try simp only [Act.put, List.setIfInBounds_toArray, List.set_cons_zero, List.set_cons_succ]
        refine wpAnyL_one 7 (o := ⟨(some 40), (.call ⟨(.value (.func 90)), #[(.tmp 39)], #[23]⟩), 23, "page.go:46", #[⟨6, .data⟩, ⟨4, .chain⟩], none⟩) rfl (by kernel_rfl) rfl (by kernel_rfl) (fun K hK => ?_)
        go_simp
        refine (bytes_calls (HV.out.fr0 G6.out) (by omega)).mono ?_
        rintro e w7 ⟨v7, rfl, f7, o7⟩
        simp only []
        have O7 := Lib.hid o7
        have O67 := Lib.hid (own_kept O6.out f7 (fun _ _ h => h))
        have S7 := Lib.hid (S6.out.trans0 f7)
        have G7 := Lib.hid (G6.out.trans0 f7)
        have hsz7 := f7.size
        clear f7 o7
        refine hK.out _ _ ?kS8 (fun hSw3 => ?kR8)
        case kS8 => exact S7.out
        clear hK K
        try simp only [Act.put, List.setIfInBounds_toArray, List.set_cons_zero, List.set_cons_succ]
        refine wpAnyL_one 8 (o := ⟨(some 41), (.call ⟨(.builtin .append), #[(.tmp 37), (.tmp 40)], #[23, 23]⟩), 23, "page.go:46", #[⟨4, .data⟩, ⟨7, .data⟩, ⟨7, .chain⟩], none⟩) rfl (by kernel_rfl) rfl (by kernel_rfl) (fun K hK => ?_)
        refine wp_app sl_u8 _ _ rfl (v := v6) (xv := v7) rfl rfl O67.out (Row.ofOwn O7.out (F := fun _ => True) (fun _ _ => trivial)) (oneCell_bv _) (by unfold maxLen; omega) (by omega) (by omega) ?_
        intro v8 w8 o8 f8 k8 nil8
        have O8 := Lib.hid o8
        have G8 := Lib.hid (G7.out.transO f8 (fun b e => (O67.out.lt b e).1))
        have S8 := Lib.hid (S7.out.trans f8 (fun b hb e => (K6.out b e).elim (fun h => h) (fun h => by omega)))
        clear o8 f8 k8 nil8
        refine hK.out _ _ ?kS9 (fun hSw4 => ?kR9)
        case kS9 => exact S8.out
        clear hK K
        try simp only [Act.put, List.setIfInBounds_toArray, List.set_cons_zero, List.set_cons_succ]
        refine wpAnyL_take 9 (oi := ⟨(some 4), (.assign (.tmp 41)), 23, "page.go:46", #[⟨8, .data⟩, ⟨8, .chain⟩, ⟨0, .phase⟩, ⟨1, .phase⟩, ⟨2, .phase⟩, ⟨3, .phase⟩, ⟨4, .phase⟩, ⟨5, .phase⟩, ⟨6, .phase⟩, ⟨7, .phase⟩, ⟨8, .phase⟩], none⟩) (v := ?v_10) rfl (by kernel_rfl) (fun _ _ _ h => h) hSw4 (yieldsIf_of rfl ?hy_10) ?hrest_10
        case hy_10 => (intro w_ hS_; (first | (go_simp; done) | (go_simp; with_reducible rfl)))
        try simp only [Act.put, List.setIfInBounds_toArray, List.set_cons_zero, List.set_cons_succ]
        refine wpAnyL_done (by kernel_rfl) ?_ _
        go_wp2
        go_roundw
        case rel =>
          refine ⟨k + 1, by omega, by go_num, G8, ?_⟩
          refine Lib.hid ?_
          rw [hstep.out]
          simpa [Nat.add_assoc] using O8.out
        case measure => simp [intOf]; omega
      · obtain rfl : k = l.length := by omega
        go_wp2
        go_ret
        refine ⟨u4, rfl, HF.out, ?_⟩
        have := HO.out
        rw [List.take_length] at this
        simpa [encB_eq, idsB] using this
  · exact absurd rfl hne
theorem tbytes_inner {F : Nat → Prop} {w : World} {n g o id : Nat} {l : List KV} {kvs : List Value} {ids : List Nat} {v : Value} (h : NodeAt F w n g o id l kvs v) (hk0 : kvs ≠ []) (hn : Nums w kvs ids) (hl : l.length ≤ 4) (hkv : ∀ x ∈ l, KVok x) (hids : ids.length ≤ 5) (hidb : ∀ k ∈ ids, k < 16384) :
    Calls Try.prog 67 #[v] w fun e w' => ∃ v', e = .returned v' ∧ Fr C0 w w' ∧ w'.ownsRow w.heap.size 5 1 v' (encB l ids).length ((encB l ids).map bv) := by
  obtain ⟨lv, hlv, hit⟩ := items_calls h
  have HIT := Lib.hid hit
  have hlv2 := hlv.mono (F' := fun b => b < w.heap.size) (fun b _ h => h)
  obtain ⟨_, h0, h1, h2, h3⟩ := h
  obtain ⟨A, c, rfl, hc1, hc2, hc3⟩ := hlv2
  have HC3 := Lib.hid hc3
  have HKV := Lib.hid hkv
  unfold maxLen at hc2
  clear hit h0 h1 h2 hc3 hlv hkv
  have HN := Lib.hid hn
  have HIB := Lib.hid hidb
  have hkl := All2.length hn
  clear hn hidb
  have hids0 : ids ≠ [] := fun e => hk0 (by rw [e] at hkl; simpa using hkl)
  rcases h3 with ⟨e, _⟩ | ⟨hne, rfl, kc, k0, k1, k2, k3⟩
  · exact absurd e hk0
  · go_enter Try.func67, Try.ntmps67
    go_wp2_with fail
    refine (HIT.out _ (Fr.refl _ _)).mono ?_
    rintro e w1 ⟨rfl, rfl⟩
    have HK3 := Lib.hid k3
    have HK0 := Lib.hid k0
    clear k3 k0
    have c0 : (w.alloc (.cells #[.int .u8 1] 5)).cell? ⟨w.heap.size, 0, none⟩ = some (.int .u8 1) := blk_cell (heap_alloc_new _ _) 0 rfl
    have z0 : (w.alloc (.cells #[.int .u8 1] 5)).frozen? ⟨w.heap.size, 0, none⟩ = false := blk_free 0 (heap_alloc_new _ _)
    go_wp2_with fail
    refine (uint_calls l.length (by omega) _).mono ?_
    rintro e w2 ⟨v2, rfl, f2, o2⟩
    have F2 := Lib.hid (((Fr.refl C0 w).alloc (.cells #[.int .u8 2] 5)).trans0 f2)
    have hsz2 := f2.size
    have OL := Lib.hid (own_kept (World.ownsRow_lit w #[bv 2] (e := 5) (size := 1) 1 (Nat.le_refl _) (by unfold maxLen; omega) rfl) f2 (fun _ _ h => h))
    have OU := Lib.hid o2
    have hu2 := uintB_length l.length
    clear f2 o2
    have hsz2' : w.heap.size + 1 ≤ w2.heap.size := by simpa using hsz2
    go_wp2_with (at_builtin; refine wpl_app sl_u8 rfl _ _ rfl (v := .slice (some ⟨w.heap.size, 0, none⟩) 1 1) (xv := v2) rfl rfl OL.out (Row.ofOwn OU.out (F := fun _ => True) (fun _ _ => trivial)) (oneCell_bv _) (by unfold maxLen; omega) (by omega) (by omega) ?_; intro v3 w3 o3 f3 k3 nil3)
    have F3 := Lib.hid (F2.out.transO f3 (fun b e => by simp [Value.ownBlock] at e; omega))
    have O3 : Hid (w3.ownsRow w.heap.size 5 1 v3 (2 :: uintB l.length ++ itemsB (l.take 0)).length ((2 :: uintB l.length ++ itemsB (l.take 0)).map bv)) := Lib.hid (by simpa [itemsB, Nat.add_comm] using o3)
    clear o3 f3 k3 nil3 OL OU F2 hsz2
    go_loopw [4, 8, 29] (fun b _ i wr => ∃ k : Nat, k ≤ l.length ∧ i = .int .i64 (k : Int) ∧ Hid (Fr C0 w wr) ∧ Hid (wr.ownsRow w.heap.size 5 1 b (2 :: uintB l.length ++ itemsB (l.take k)).length ((2 :: uintB l.length ++ itemsB (l.take k)).map bv))) (fun _ _ i _ => l.length - (intOf i).toNat)
    case atStart => exact ⟨0, Nat.zero_le _, rfl, F3, O3⟩
    case round =>
      obtain ⟨k, hk, rfl, HF, HO⟩ := hrel
      by_cases hlt : k < l.length
      · obtain ⟨g, o, rfl, hFg, hc⟩ := HC3.out (by intro h; subst h; simp at hlt)
        obtain ⟨kv, vv, d1, d2, d3, d4⟩ := hc k hlt
        have d1' := HF.out.cell0 d1
        have d2' := HF.out.cell0 d2
        obtain ⟨kA, kc, rfl, -⟩ := (show _ from d3)
        obtain ⟨vA, vc, rfl, -⟩ := (show _ from d4)
        have HK := Lib.hid d3
        have HV := Lib.hid d4
        have hx := HKV.out l[k] (List.getElem_mem hlt)
        have hle := itemsB_le (l := l.take k) (fun x hx => HKV.out x (List.mem_of_mem_take hx))
        have hlen : (l.take k).length ≤ 4 := by rw [List.length_take]; omega
        have hszr := HF.out.size
        have hob := fun b e => HO.out.lt b e
        have hLl : (2 :: uintB l.length ++ itemsB (l.take k)).length ≤ 7500 := by simp only [List.length_append, List.length_cons]; omega
        have hstep : Hid (2 :: uintB l.length ++ itemsB (l.take (k + 1)) = (2 :: uintB l.length ++ itemsB (l.take k)) ++ bytesB l[k].1 ++ bytesB l[k].2) := Lib.hid (by rw [itemsB_take hlt]; simp only [List.append_assoc, List.cons_append])
        unfold KVok at hx
        have hb1 := uintB_length l[k].1.length
        have hb2 := uintB_length l[k].2.length
        have hB1 : (bytesB l[k].1).length ≤ 70 := by simp only [bytesB, List.length_append]; omega
        have hB2 : (bytesB l[k].2).length ≤ 1810 := by simp only [bytesB, List.length_append]; omega
        generalize 2 :: uintB l.length ++ itemsB (l.take k) = L at *
        clear d1 d2 d3 d4 hc hb1 hb2 hlen
        go_wp2_with fail
        have q0 : (wr.alloc (.cells #[.slice kA l[k].1.length kc, .slice vA l[k].2.length vc] 62)).cell? ⟨wr.heap.size, 0, none⟩ = some (.slice kA l[k].1.length kc) := blk_cell (heap_alloc_new _ _) 0 rfl
        have q1 : (wr.alloc (.cells #[.slice kA l[k].1.length kc, .slice vA l[k].2.length vc] 62)).cell? ⟨wr.heap.size, 1, none⟩ = some (.slice vA l[k].2.length vc) := blk_cell (heap_alloc_new _ _) 1 rfl
        have hnb : ¬ u4.ownBlock = some wr.heap.size := fun e => by have := (hob _ e).2; omega
        have FW := Lib.hid (HF.out.alloc (.cells #[.slice kA l[k].1.length kc, .slice vA l[k].2.length vc] 62))
        have FRW := Lib.hid ((Fr.refl C0 wr).alloc (.cells #[.slice kA l[k].1.length kc, .slice vA l[k].2.length vc] 62))
        have hszW := FRW.out.size
        refine wp_region_L (Fr (fun b => u4.ownBlock = some b) (wr.alloc (.cells #[.slice kA l[k].1.length kc, .slice vA l[k].2.length vc] 62))) [] (by kernel_rfl) ?_
        have hSw0 : (Fr (fun b => u4.ownBlock = some b) (wr.alloc (.cells #[.slice kA l[k].1.length kc, .slice vA l[k].2.length vc] 62))) _ := (Fr.refl _ _).drew
        refine wpAnyL_take 0 (oi := ⟨(some 33), (.move (.tmp 4)), 23, "page.go:46", #[], none⟩) (v := ?v_11) rfl (by kernel_rfl) (fun _ _ _ h => h) hSw0 (yieldsIf_of rfl ?hy_11) ?hrest_11
        case hy_11 => (intro w_ hS_; (first | (go_simp; done) | (go_simp; with_reducible rfl)))
        try simp only [Act.put, List.setIfInBounds_toArray, List.set_cons_zero, List.set_cons_succ]
        refine wpAnyL_take 1 (oi := ⟨(some 34), (.fieldAddr 62 (.tmp 8) 0), 0, "page.go:46", #[], none⟩) (v := ?v_12) rfl (by kernel_rfl) (fun _ _ _ h => h) hSw0 (yieldsIf_of rfl ?hy_12) ?hrest_12
        case hy_12 => (intro w_ hS_; (first | (go_simp; done) | (go_simp; with_reducible rfl)))
        try simp only [Act.put, List.setIfInBounds_toArray, List.set_cons_zero, List.set_cons_succ]
        refine wpAnyL_take 2 (oi := ⟨(some 35), (.load 23 (.tmp 34)), 23, "page.go:46", #[⟨1, .data⟩], none⟩) (v := ?v_13) rfl (by kernel_rfl) (fun _ _ _ h => h) hSw0 (yieldsIf_of rfl ?hy_13) ?hrest_13
        case hy_13 => (intro w_ hS_; have b0 := hS_.cell q0 hnb; have b1 := hS_.cell q1 hnb; (first | (go_simp; done) | (go_simp; with_reducible rfl)))
        try simp only [Act.put, List.setIfInBounds_toArray, List.set_cons_zero, List.set_cons_succ]
        refine wpAnyL_take 5 (oi := ⟨(some 38), (.fieldAddr 62 (.tmp 8) 1), 0, "page.go:46", #[], none⟩) (v := ?v_14) rfl (by kernel_rfl) (fun _ _ _ h => h) hSw0 (yieldsIf_of rfl ?hy_14) ?hrest_14
        case hy_14 => (intro w_ hS_; (first | (go_simp; done) | (go_simp; with_reducible rfl)))
        try simp only [Act.put, List.setIfInBounds_toArray, List.set_cons_zero, List.set_cons_succ]
        refine wpAnyL_take 6 (oi := ⟨(some 39), (.load 23 (.tmp 38)), 23, "page.go:46", #[⟨5, .data⟩], none⟩) (v := ?v_15) rfl (by kernel_rfl) (fun _ _ _ h => h) hSw0 (yieldsIf_of rfl ?hy_15) ?hrest_15
        case hy_15 => (intro w_ hS_; have b0 := hS_.cell q0 hnb; have b1 := hS_.cell q1 hnb; (first | (go_simp; done) | (go_simp; with_reducible rfl)))
        try simp only [Act.put, List.setIfInBounds_toArray, List.set_cons_zero, List.set_cons_succ]
        refine wpAnyL_one 3 (o := ⟨(some 36), (.call ⟨(.value (.func 90)), #[(.tmp 35)], #[23]⟩), 23, "page.go:46", #[⟨2, .data⟩], none⟩) rfl (by kernel_rfl) rfl (by kernel_rfl) (fun K hK => ?_)
        go_simp
        refine (bytes_calls (HK.out.fr0 FW.out.drew) (by omega)).mono ?_
        rintro e w5 ⟨v5, rfl, f5, o5⟩
        simp only []
        have O5 := Lib.hid o5
        have G5 := Lib.hid (FW.out.drew.trans0 f5)
        have R5 := Lib.hid (FRW.out.drew.trans0 f5)
        have S5 := Lib.hid ((Fr.refl (fun b => u4.ownBlock = some b) (wr.alloc (.cells #[.slice kA l[k].1.length kc, .slice vA l[k].2.length vc] 62))).drew.trans0 f5)
        have hsz5 := R5.out.size
        have hszS := S5.out.size
        clear f5 o5
        refine hK.out _ _ ?kS16 (fun hSw1 => ?kR16)
        case kS16 => exact S5.out
        clear hK K
        try simp only [Act.put, List.setIfInBounds_toArray, List.set_cons_zero, List.set_cons_succ]
        refine wpAnyL_one 4 (o := ⟨(some 37), (.call ⟨(.builtin .append), #[(.tmp 33), (.tmp 36)], #[23, 23]⟩), 23, "page.go:46", #[⟨0, .data⟩, ⟨3, .data⟩, ⟨3, .chain⟩], none⟩) rfl (by kernel_rfl) rfl (by kernel_rfl) (fun K hK => ?_)
        refine wp_app sl_u8 _ _ rfl (v := u4) (xv := v5) rfl rfl (own_kept HO.out R5.out (fun _ _ h => h)) (Row.ofOwn O5.out (F := fun _ => True) (fun _ _ => trivial)) (oneCell_bv _) (by unfold maxLen; omega) (by omega) (by omega) ?_
        intro v6 w6 o6 f6 k6 nil6
        have O6 := Lib.hid o6
        have S6 := Lib.hid (S5.out.trans f6 (fun _ _ h => h))
        have G6 := Lib.hid (G5.out.transO f6 (fun b e => (hob b e).1))
        have hsz6 := f6.size
        have K6 := Lib.hid k6
        clear o6 f6 k6 nil6
        refine hK.out _ _ ?kS17 (fun hSw2 => ?kR17)
        case kS17 => exact S6.out
        clear hK K
        try simp only [Act.put, List.setIfInBounds_toArray, List.set_cons_zero, List.set_cons_succ]
        refine wpAnyL_one 7 (o := ⟨(some 40), (.call ⟨(.value (.func 90)), #[(.tmp 39)], #[23]⟩), 23, "page.go:46", #[⟨6, .data⟩, ⟨4, .chain⟩], none⟩) rfl (by kernel_rfl) rfl (by kernel_rfl) (fun K hK => ?_)
        go_simp
        refine (bytes_calls (HV.out.fr0 G6.out) (by omega)).mono ?_
        rintro e w7 ⟨v7, rfl, f7, o7⟩
        simp only []
        have O7 := Lib.hid o7
        have O67 := Lib.hid (own_kept O6.out f7 (fun _ _ h => h))
        have S7 := Lib.hid (S6.out.trans0 f7)
        have G7 := Lib.hid (G6.out.trans0 f7)
        have hsz7 := f7.size
        clear f7 o7
        refine hK.out _ _ ?kS18 (fun hSw3 => ?kR18)
        case kS18 => exact S7.out
        clear hK K
        try simp only [Act.put, List.setIfInBounds_toArray, List.set_cons_zero, List.set_cons_succ]
        refine wpAnyL_one 8 (o := ⟨(some 41), (.call ⟨(.builtin .append), #[(.tmp 37), (.tmp 40)], #[23, 23]⟩), 23, "page.go:46", #[⟨4, .data⟩, ⟨7, .data⟩, ⟨7, .chain⟩], none⟩) rfl (by kernel_rfl) rfl (by kernel_rfl) (fun K hK => ?_)
        refine wp_app sl_u8 _ _ rfl (v := v6) (xv := v7) rfl rfl O67.out (Row.ofOwn O7.out (F := fun _ => True) (fun _ _ => trivial)) (oneCell_bv _) (by unfold maxLen; omega) (by omega) (by omega) ?_
        intro v8 w8 o8 f8 k8 nil8
        have O8 := Lib.hid o8
        have G8 := Lib.hid (G7.out.transO f8 (fun b e => (O67.out.lt b e).1))
        have S8 := Lib.hid (S7.out.trans f8 (fun b hb e => (K6.out b e).elim (fun h => h) (fun h => by omega)))
        clear o8 f8 k8 nil8
        refine hK.out _ _ ?kS19 (fun hSw4 => ?kR19)
        case kS19 => exact S8.out
        clear hK K
        try simp only [Act.put, List.setIfInBounds_toArray, List.set_cons_zero, List.set_cons_succ]
        refine wpAnyL_take 9 (oi := ⟨(some 4), (.assign (.tmp 41)), 23, "page.go:46", #[⟨8, .data⟩, ⟨8, .chain⟩, ⟨0, .phase⟩, ⟨1, .phase⟩, ⟨2, .phase⟩, ⟨3, .phase⟩, ⟨4, .phase⟩, ⟨5, .phase⟩, ⟨6, .phase⟩, ⟨7, .phase⟩, ⟨8, .phase⟩], none⟩) (v := ?v_20) rfl (by kernel_rfl) (fun _ _ _ h => h) hSw4 (yieldsIf_of rfl ?hy_20) ?hrest_20
        case hy_20 => (intro w_ hS_; (first | (go_simp; done) | (go_simp; with_reducible rfl)))
        try simp only [Act.put, List.setIfInBounds_toArray, List.set_cons_zero, List.set_cons_succ]
        refine wpAnyL_done (by kernel_rfl) ?_ _
        go_wp2
        go_roundw
        case rel =>
          refine ⟨k + 1, by omega, by go_num, G8, ?_⟩
          refine Lib.hid ?_
          rw [hstep.out]
          simpa [Nat.add_assoc] using O8.out
        case measure => simp [intOf]; omega
      · obtain rfl : k = l.length := by omega
        have k0' := HF.out.cell0 HK0.out
        have HO1 := HO
        rw [List.take_length] at HO1
        have HF1 := HF
        have hsL : (2 :: uintB l.length ++ itemsB l).length ≤ 7500 := by
          have hle := itemsB_le (l := l) HKV.out
          have hb1 := uintB_length l.length
          simp only [List.length_append, List.length_cons]; omega
        have HL1 : Hid (∃ L', L' = 2 :: uintB l.length ++ itemsB l) := Lib.hid ⟨_, rfl⟩
        obtain ⟨L, hL⟩ := HL1.out
        rw [← hL] at HO1 hsL
        have HL1 := Lib.hid hL
        clear HO HF hL
        go_wp2
        go_loopw [4, 10, 49] (fun b _ i wr2 => ∃ k : Nat, k ≤ ids.length ∧ i = .int .i64 (k : Int) ∧ Hid (Fr C0 w wr2) ∧ Hid (wr2.ownsRow w.heap.size 5 1 b (L ++ idsB (ids.take k)).length ((L ++ idsB (ids.take k)).map bv))) (fun _ _ i _ => ids.length - (intOf i).toNat)
        case atStart => exact ⟨0, Nat.zero_le _, rfl, HF1, Lib.hid (by simpa [idsB] using HO1.out)⟩
        case round =>
          obtain ⟨k, hk, rfl, HF, HO⟩ := hrel
          by_cases hlt : k < ids.length
          · have hltk : k < kvs.length := by omega
            have hu := HK3.out k kvs[k] (by simp [hltk])
            have hu' := HF.out.cell0 hu
            have HNK := Lib.hid (All2.get k hltk hlt HN.out)
            have hib := HIB.out _ (List.getElem_mem hlt)
            have hle := idsB_le (ids.take k)
            have hlen : (ids.take k).length ≤ 5 := by rw [List.length_take]; omega
            have hLl : (L ++ idsB (ids.take k)).length ≤ 7600 := by simp only [List.length_append]; omega
            have hstep : Hid (L ++ idsB (ids.take (k + 1)) = (L ++ idsB (ids.take k)) ++ uintB ids[k]) := Lib.hid (by rw [idsB_take hlt]; simp only [List.append_assoc])
            have hb1 := uintB_length ids[k]
            generalize L ++ idsB (ids.take k) = M at *
            generalize kvs[k] = u at *
            clear hu hle hlen
            go_wp2_with fail
            refine (num_calls (HNK.out.fr0 HF.out)).mono ?_
            rintro e w5 ⟨rfl, rfl⟩
            go_wp2_with fail
            refine (uint_calls ids[k] (by omega) _).mono ?_
            rintro e w5 ⟨v5, rfl, f5, o5⟩
            have O5 := Lib.hid o5
            have G5 := Lib.hid (HF.out.trans0 f5)
            have OL5 := Lib.hid (own_kept HO.out f5 (fun _ _ h => h))
            have hsz5 := G5.out.size
            clear f5 o5
            go_wp2_with (at_builtin; refine wpl_app sl_u8 rfl _ _ rfl (v := u4) (xv := v5) rfl rfl OL5.out (Row.ofOwn O5.out (F := fun _ => True) (fun _ _ => trivial)) (oneCell_bv _) (by unfold maxLen; omega) (by omega) (by omega) ?_; intro v6 w6 o6 f6 k6 nil6)
            have G6 := Lib.hid (G5.out.transO f6 (fun b e => (OL5.out.lt b e).1))
            have O6 := Lib.hid o6
            clear o6 f6 k6 nil6
            go_roundw
            case rel =>
              refine ⟨k + 1, by omega, by go_num, G6, ?_⟩
              refine Lib.hid ?_
              rw [hstep.out]
              simpa using O6.out
            case measure => simp [intOf]; omega
          · obtain rfl : k = ids.length := by omega
            go_wp2
            go_ret
            refine ⟨_, rfl, HF.out, ?_⟩
            have := HO.out
            rw [List.take_length] at this
            rw [encB_eq, if_neg hids0]
            exact HL1.out ▸ this
end Go.Proofs.Ytcmicdcikechkaa
end
