import Derived.Test.YtcmicdcikechkaaPieces04
import Derived.Test.YtcmicdcikechkaaPieces05
import Derived.Test.YtcmicdcikechkaaPieces07
import Derived.Test.YtcmicdcikechkaaPieces08
set_option linter.all false
section
namespace Go.Proofs.Ytcmicdcikechkaa
open Go.RowKit Go.H
set_option maxHeartbeats 1000000
set_option maxRecDepth 100000
structure SSt where
  pages : Nat
  state : List (Int × Int)
  life : Nat
  num : Nat
  root : Nat
def vmap (L : List (Int × Int)) : List (Int × Value) := L.map fun p => (p.1, .int .i64 p.2)
theorem aget_vmap (k : Int) : ∀ L : List (Int × Int), aget k (vmap L) = (aget k L).map fun x => Value.int .i64 x
  | [] => rfl
  | p :: L => by
    by_cases h : p.1 = k
    · simp [vmap, aget, h]
    · simp only [vmap, List.map_cons, aget, if_neg h]; exact aget_vmap k L
theorem aset_vmap (k v : Int) : ∀ L : List (Int × Int), aset k (Value.int .i64 v) (vmap L) = vmap (aset k v L)
  | [] => rfl
  | p :: L => by
    by_cases h : p.1 = k
    · simp [vmap, aset, h]
    · have ih := aset_vmap k v L
      simp only [vmap, List.map_cons, aset, if_neg h] at ih ⊢
      rw [ih]
def SSt.at_ (S : SSt) (k : Nat) : Int := (aget (k : Int) S.state).getD 0
theorem lookup_ints {w : World} {m : Nat} {L : List (Int × Int)} (h : MapIs w m (vmap L)) (k : Int) :
    (Instr.lookup 66 (.map (some m)) (.int .i64 k) false).run Try.prog w = .ok (.int .i64 ((aget k L).getD 0)) w := by
  have hz : (zeroValue 3).run Try.prog w = .ok (.int .i64 0) w := by kernel_rfl
  have hl := run_lookup_int (P := Try.prog) (T := 66) (K := 3) (E := 3) Try.underlying66 Try.underlying3 hz h k false
  rw [hl, mget_eq, aget_vmap]
  cases aget k L <;> rfl
structure StoreIn (c : Nat → Nat) (r : Nat) (w : World) (st sm d m : Nat) (ov : Value) (S : SSt) (D : DSt) : Prop where
  blk : w.heap[st]? = some (.cells #[.int .i64 S.pages, .map (some sm), .pointer (some ⟨d, 0, none⟩), .int .i64 S.life, .int .u64 S.num, .int .i64 S.root] 91 (0, 0))
  map : MapIs w sm (vmap S.state)
  disk : DiskA (Dt c) w d m ov D
  ost : c st = r
  osm : c sm = r
  od : c d = r
  om : c m = r
  oov : ∀ b, ov.ownBlock = some b → c b = r
  ne : sm ≠ m
def StoreOk (c : Nat → Nat) (r : Nat) (w : World) (st : Nat) (S : SSt) (D : DSt) : Prop := ∃ sm d m ov, StoreIn c r w st sm d m ov S D
theorem own_blk {w : World} {B e size n : Nat} {v : Value} {xs : List Value} (h : w.ownsRow B e size v n xs) {b : Nat} (hb : v.ownBlock = some b) : ∃ cur, w.heap[b]? = some (.cells cur e (0, 0)) := by
  rcases h.2 with ⟨rfl, _⟩ | ⟨g, cap, cur, rfl, h1, hg, _⟩
  · simp [Value.ownBlock] at hb
  · simp [Value.ownBlock] at hb; subst hb; exact ⟨cur, hg⟩
namespace StoreIn
variable {c : Nat → Nat} {r : Nat} {w : World} {st sm d m : Nat} {ov : Value} {S : SSt} {D : DSt}
theorem st_d (h : StoreIn c r w st sm d m ov S D) : st ≠ d := by
  intro e; have h1 := h.blk; rw [e, h.disk.blk] at h1; simp at h1
theorem st_m (h : StoreIn c r w st sm d m ov S D) : st ≠ m := by
  intro e; have h1 := h.blk; obtain ⟨M, ⟨es, k, h2, _⟩, _⟩ := h.disk.kept; rw [e, h2] at h1; simp at h1
theorem st_sm (h : StoreIn c r w st sm d m ov S D) : st ≠ sm := by
  intro e; have h1 := h.blk; obtain ⟨es, k, h2, _⟩ := h.map; rw [e, h2] at h1; simp at h1
theorem d_m (h : StoreIn c r w st sm d m ov S D) : d ≠ m := by
  intro e; have h1 := h.disk.blk; obtain ⟨M, ⟨es, k, h2, _⟩, _⟩ := h.disk.kept; rw [e, h2] at h1; simp at h1
theorem d_sm (h : StoreIn c r w st sm d m ov S D) : d ≠ sm := by
  intro e; have h1 := h.disk.blk; obtain ⟨es, k, h2, _⟩ := h.map; rw [e, h2] at h1; simp at h1
theorem ov_m (h : StoreIn c r w st sm d m ov S D) : ∀ b, ov.ownBlock = some b → b ≠ m := by
  intro b hb e; obtain ⟨xs, o, _⟩ := h.disk.opn; obtain ⟨cur, h1⟩ := own_blk o hb; obtain ⟨M, ⟨es, k, h2, _⟩, _⟩ := h.disk.kept; rw [e, h2] at h1; simp at h1
theorem ov_sm (h : StoreIn c r w st sm d m ov S D) : ∀ b, ov.ownBlock = some b → b ≠ sm := by
  intro b hb e; obtain ⟨xs, o, _⟩ := h.disk.opn; obtain ⟨cur, h1⟩ := own_blk o hb; obtain ⟨es, k, h2, _⟩ := h.map; rw [e, h2] at h1; simp at h1
theorem ov_d (h : StoreIn c r w st sm d m ov S D) : ∀ b, ov.ownBlock = some b → b ≠ d := by
  intro b hb e; obtain ⟨xs, o, _⟩ := h.disk.opn; obtain ⟨cur, h1⟩ := own_blk o hb; rw [e, h.disk.blk] at h1; simp at h1
theorem ov_st (h : StoreIn c r w st sm d m ov S D) : ∀ b, ov.ownBlock = some b → b ≠ st := by
  intro b hb e; obtain ⟨xs, o, _⟩ := h.disk.opn; obtain ⟨cur, h1⟩ := own_blk o hb; rw [e, h.blk] at h1; simp at h1
theorem fr {C : Nat → Prop} {w' : World} (h : StoreIn c r w st sm d m ov S D) (hf : Fr C w w') (h1 : ∀ b, C b → c b ≠ r) (h2 : ∀ b, C b → c b ≠ 0) : StoreIn c r w' st sm d m ov S D :=
  ⟨hf.blk h.blk (fun k => h1 _ k h.ost), h.map.fr hf (fun k => h1 _ k h.osm), h.disk.fr hf (fun k => h1 _ k h.od) (fun k => h1 _ k h.om) (fun b hb k => h1 _ k (h.oov b hb)) (fun b hb k => h2 _ k hb), h.ost, h.osm, h.od, h.om, h.oov, h.ne⟩
theorem fr0 {w' : World} (h : StoreIn c r w st sm d m ov S D) (hf : Fr C0 w w') : StoreIn c r w' st sm d m ov S D := h.fr hf (fun _ k => k.elim) (fun _ k => k.elim)
end StoreIn
theorem dead_calls {c : Nat → Nat} {r : Nat} {w : World} {st sm d m : Nat} {ov : Value} {S : SSt} {D : DSt} (h : StoreIn c r w st sm d m ov S D) :
    Calls Try.prog 63 #[.pointer (some ⟨st, 0, none⟩)] w fun e w' => e = .returned (.bool (D.down || decide (D.life ≠ S.life))) ∧ w' = w.drew := by
  have c2 := blk_cell h.blk 2 rfl
  have c3 := blk_cell h.blk 3 rfl
  have HD := Lib.hid (fun (w_ : World) (hf : Fr C0 w w_) => down_calls (h.disk.fr0 hf))
  have HL := Lib.hid (fun (w_ : World) (hf : Fr C0 w w_) => life_calls (h.disk.fr0 hf))
  clear h
  go_enter Try.func63, Try.ntmps63
  go_wp2
  cases hd : D.down with
  | true =>
    rw [hd] at HD
    refine wp_region_L (Fr C0 w) [] (by kernel_rfl) ?_
    have hSw0 : (Fr C0 w) _ := (Fr.refl C0 w).drew
    refine wpAnyL_take 0 (oi := ⟨(some 3), (.move (.tmp 0)), 63, "page.go:147", #[], none⟩) (v := ?v_1) rfl (by kernel_rfl) (fun _ _ _ h => h) hSw0 (yieldsIf_of rfl ?hy_1) ?hrest_1
    case hy_1 => (intro w_ hS_; (first | (go_simp; done) | (go_simp; with_reducible rfl)))
    try simp only [Act.put, List.setIfInBounds_toArray, List.set_cons_zero, List.set_cons_succ]
    refine wpAnyL_take 1 (oi := ⟨(some 4), (.nilCheck (.tmp 3)), 0, "page.go:147", #[⟨0, .data⟩], none⟩) (v := ?v_2) rfl (by kernel_rfl) (fun _ _ _ h => h) hSw0 (yieldsIf_of rfl ?hy_2) ?hrest_2
    case hy_2 => (intro w_ hS_; (first | (go_simp; done) | (go_simp; with_reducible rfl)))
    try simp only [Act.put, List.setIfInBounds_toArray, List.set_cons_zero, List.set_cons_succ]
    refine wpAnyL_take 2 (oi := ⟨(some 5), (.fieldAddr 91 (.tmp 4) 1), 0, "page.go:147", #[⟨1, .data⟩], none⟩) (v := ?v_3) rfl (by kernel_rfl) (fun _ _ _ h => h) hSw0 (yieldsIf_of rfl ?hy_3) ?hrest_3
    case hy_3 => (intro w_ hS_; (first | (go_simp; done) | (go_simp; with_reducible rfl)))
    try simp only [Act.put, List.setIfInBounds_toArray, List.set_cons_zero, List.set_cons_succ]
    refine wpAnyL_take 3 (oi := ⟨(some 6), (.load 24 (.tmp 5)), 24, "page.go:147", #[⟨2, .data⟩], none⟩) (v := ?v_4) rfl (by kernel_rfl) (fun _ _ _ h => h) hSw0 (yieldsIf_of rfl ?hy_4) ?hrest_4
    case hy_4 => (intro w_ hS_; have b2 := hS_.cell0 c2; (first | (go_simp; done) | (go_simp; with_reducible rfl)))
    try simp only [Act.put, List.setIfInBounds_toArray, List.set_cons_zero, List.set_cons_succ]
    refine wpAnyL_one 4 (o := ⟨(some 7), (.call ⟨(.value (.func 75)), #[(.tmp 6)], #[24]⟩), 4, "page.go:147", #[⟨3, .data⟩], none⟩) rfl (by kernel_rfl) rfl (by kernel_rfl) (fun K hK => ?_)
    go_simp
    refine (HD.out _ (by assumption)).mono ?_
    rintro e w2 ⟨rfl, rfl⟩
    simp only []
    refine hK.out _ _ ?kS5 (fun hSw1 => ?kR5)
    case kS5 => assumption
    clear hK K
    try simp only [Act.put, List.setIfInBounds_toArray, List.set_cons_zero, List.set_cons_succ]
    refine wpAnyL_take 5 (oi := ⟨(some 8), (.move (.tmp 7)), 4, "page.go:147", #[⟨4, .data⟩, ⟨4, .chain⟩], none⟩) (v := ?v_6) rfl (by kernel_rfl) (fun _ _ _ h => h) hSw1 (yieldsIf_of rfl ?hy_6) ?hrest_6
    case hy_6 => (intro w_ hS_; (first | (go_simp; done) | (go_simp; with_reducible rfl)))
    try simp only [Act.put, List.setIfInBounds_toArray, List.set_cons_zero, List.set_cons_succ]
    refine wpAnyL_take 6 (oi := ⟨(some 9), (.move (.tmp 0)), 63, "page.go:147", #[⟨5, .guard⟩], (some (5, false))⟩)  rfl (by kernel_rfl) (fun _ _ _ h => h) hSw1 (yieldsIf_skip rfl) ?hrest_7
    try simp only [Act.put, List.setIfInBounds_toArray, List.set_cons_zero, List.set_cons_succ]
    refine wpAnyL_take 7 (oi := ⟨(some 10), (.nilCheck (.tmp 9)), 0, "page.go:147", #[⟨6, .data⟩, ⟨5, .guard⟩], (some (5, false))⟩)  rfl (by kernel_rfl) (fun _ _ _ h => h) hSw1 (yieldsIf_skip rfl) ?hrest_8
    try simp only [Act.put, List.setIfInBounds_toArray, List.set_cons_zero, List.set_cons_succ]
    refine wpAnyL_take 8 (oi := ⟨(some 11), (.fieldAddr 91 (.tmp 10) 1), 0, "page.go:147", #[⟨7, .data⟩, ⟨5, .guard⟩], (some (5, false))⟩)  rfl (by kernel_rfl) (fun _ _ _ h => h) hSw1 (yieldsIf_skip rfl) ?hrest_9
    try simp only [Act.put, List.setIfInBounds_toArray, List.set_cons_zero, List.set_cons_succ]
    refine wpAnyL_take 9 (oi := ⟨(some 12), (.load 24 (.tmp 11)), 24, "page.go:147", #[⟨8, .data⟩, ⟨5, .guard⟩], (some (5, false))⟩)  rfl (by kernel_rfl) (fun _ _ _ h => h) hSw1 (yieldsIf_skip rfl) ?hrest_10
    try simp only [Act.put, List.setIfInBounds_toArray, List.set_cons_zero, List.set_cons_succ]
    refine wpAnyL_take 10 (oi := ⟨(some 13), (.call ⟨(.value (.func 76)), #[(.tmp 12)], #[24]⟩), 3, "page.go:147", #[⟨9, .data⟩, ⟨5, .chain⟩, ⟨5, .guard⟩], (some (5, false))⟩)  rfl (by kernel_rfl) (fun _ _ _ h => h) hSw1 (yieldsIf_skip rfl) ?hrest_11
    try simp only [Act.put, List.setIfInBounds_toArray, List.set_cons_zero, List.set_cons_succ]
    refine wpAnyL_take 11 (oi := ⟨(some 14), (.move (.tmp 0)), 63, "page.go:147", #[⟨5, .guard⟩], (some (5, false))⟩)  rfl (by kernel_rfl) (fun _ _ _ h => h) hSw1 (yieldsIf_skip rfl) ?hrest_12
    try simp only [Act.put, List.setIfInBounds_toArray, List.set_cons_zero, List.set_cons_succ]
    refine wpAnyL_take 12 (oi := ⟨(some 15), (.nilCheck (.tmp 14)), 0, "page.go:147", #[⟨11, .data⟩, ⟨5, .guard⟩], (some (5, false))⟩)  rfl (by kernel_rfl) (fun _ _ _ h => h) hSw1 (yieldsIf_skip rfl) ?hrest_13
    try simp only [Act.put, List.setIfInBounds_toArray, List.set_cons_zero, List.set_cons_succ]
    refine wpAnyL_take 13 (oi := ⟨(some 16), (.fieldAddr 91 (.tmp 15) 2), 0, "page.go:147", #[⟨12, .data⟩, ⟨5, .guard⟩], (some (5, false))⟩)  rfl (by kernel_rfl) (fun _ _ _ h => h) hSw1 (yieldsIf_skip rfl) ?hrest_14
    try simp only [Act.put, List.setIfInBounds_toArray, List.set_cons_zero, List.set_cons_succ]
    refine wpAnyL_take 14 (oi := ⟨(some 17), (.load 3 (.tmp 16)), 3, "page.go:147", #[⟨13, .data⟩, ⟨5, .guard⟩], (some (5, false))⟩)  rfl (by kernel_rfl) (fun _ _ _ h => h) hSw1 (yieldsIf_skip rfl) ?hrest_15
    try simp only [Act.put, List.setIfInBounds_toArray, List.set_cons_zero, List.set_cons_succ]
    refine wpAnyL_take 15 (oi := ⟨(some 18), (.binOp .neq 3 (.tmp 13) (.tmp 17) 3), 4, "page.go:147", #[⟨10, .data⟩, ⟨14, .data⟩, ⟨5, .guard⟩], (some (5, false))⟩)  rfl (by kernel_rfl) (fun _ _ _ h => h) hSw1 (yieldsIf_skip rfl) ?hrest_16
    try simp only [Act.put, List.setIfInBounds_toArray, List.set_cons_zero, List.set_cons_succ]
    refine wpAnyL_take 16 (oi := ⟨(some 19), (.pick (.tmp 8) (.const (.bool true)) (.tmp 18)), 4, "page.go:147", #[⟨5, .data⟩, ⟨15, .data⟩], none⟩) (v := ?v_17) rfl (by kernel_rfl) (fun _ _ _ h => h) hSw1 (yieldsIf_of rfl ?hy_17) ?hrest_17
    case hy_17 => (intro w_ hS_; (first | (go_simp; done) | (go_simp; with_reducible rfl)))
    try simp only [Act.put, List.setIfInBounds_toArray, List.set_cons_zero, List.set_cons_succ]
    refine wpAnyL_take 17 (oi := ⟨(some 2), (.assign (.tmp 19)), 4, "page.go:147", #[⟨16, .data⟩, ⟨10, .chain⟩, ⟨0, .phase⟩, ⟨1, .phase⟩, ⟨2, .phase⟩, ⟨3, .phase⟩, ⟨4, .phase⟩, ⟨5, .phase⟩, ⟨6, .phase⟩, ⟨7, .phase⟩, ⟨8, .phase⟩, ⟨9, .phase⟩, ⟨10, .phase⟩, ⟨11, .phase⟩, ⟨12, .phase⟩, ⟨13, .phase⟩, ⟨14, .phase⟩, ⟨15, .phase⟩, ⟨16, .phase⟩], none⟩) (v := ?v_18) rfl (by kernel_rfl) (fun _ _ _ h => h) hSw1 (yieldsIf_of rfl ?hy_18) ?hrest_18
    case hy_18 => (intro w_ hS_; (first | (go_simp; done) | (go_simp; with_reducible rfl)))
    try simp only [Act.put, List.setIfInBounds_toArray, List.set_cons_zero, List.set_cons_succ]
    refine wpAnyL_done (by kernel_rfl) ?_ _
    go_wp2
    go_ret
    exact ⟨by simp [hd], rfl⟩
  | false =>
    rw [hd] at HD
    refine wp_region_L (Fr C0 w) [] (by kernel_rfl) ?_
    have hSw0 : (Fr C0 w) _ := (Fr.refl C0 w).drew
    refine wpAnyL_take 0 (oi := ⟨(some 3), (.move (.tmp 0)), 63, "page.go:147", #[], none⟩) (v := ?v_19) rfl (by kernel_rfl) (fun _ _ _ h => h) hSw0 (yieldsIf_of rfl ?hy_19) ?hrest_19
    case hy_19 => (intro w_ hS_; (first | (go_simp; done) | (go_simp; with_reducible rfl)))
    try simp only [Act.put, List.setIfInBounds_toArray, List.set_cons_zero, List.set_cons_succ]
    refine wpAnyL_take 1 (oi := ⟨(some 4), (.nilCheck (.tmp 3)), 0, "page.go:147", #[⟨0, .data⟩], none⟩) (v := ?v_20) rfl (by kernel_rfl) (fun _ _ _ h => h) hSw0 (yieldsIf_of rfl ?hy_20) ?hrest_20
    case hy_20 => (intro w_ hS_; (first | (go_simp; done) | (go_simp; with_reducible rfl)))
    try simp only [Act.put, List.setIfInBounds_toArray, List.set_cons_zero, List.set_cons_succ]
    refine wpAnyL_take 2 (oi := ⟨(some 5), (.fieldAddr 91 (.tmp 4) 1), 0, "page.go:147", #[⟨1, .data⟩], none⟩) (v := ?v_21) rfl (by kernel_rfl) (fun _ _ _ h => h) hSw0 (yieldsIf_of rfl ?hy_21) ?hrest_21
    case hy_21 => (intro w_ hS_; (first | (go_simp; done) | (go_simp; with_reducible rfl)))
    try simp only [Act.put, List.setIfInBounds_toArray, List.set_cons_zero, List.set_cons_succ]
    refine wpAnyL_take 3 (oi := ⟨(some 6), (.load 24 (.tmp 5)), 24, "page.go:147", #[⟨2, .data⟩], none⟩) (v := ?v_22) rfl (by kernel_rfl) (fun _ _ _ h => h) hSw0 (yieldsIf_of rfl ?hy_22) ?hrest_22
    case hy_22 => (intro w_ hS_; have b2 := hS_.cell0 c2; have b3 := hS_.cell0 c3; (first | (go_simp; done) | (go_simp; with_reducible rfl)))
    try simp only [Act.put, List.setIfInBounds_toArray, List.set_cons_zero, List.set_cons_succ]
    refine wpAnyL_one 4 (o := ⟨(some 7), (.call ⟨(.value (.func 75)), #[(.tmp 6)], #[24]⟩), 4, "page.go:147", #[⟨3, .data⟩], none⟩) rfl (by kernel_rfl) rfl (by kernel_rfl) (fun K hK => ?_)
    go_simp
    refine (HD.out _ (by assumption)).mono ?_
    rintro e w2 ⟨rfl, rfl⟩
    simp only []
    refine hK.out _ _ ?kS23 (fun hSw1 => ?kR23)
    case kS23 => assumption
    clear hK K
    try simp only [Act.put, List.setIfInBounds_toArray, List.set_cons_zero, List.set_cons_succ]
    refine wpAnyL_take 5 (oi := ⟨(some 8), (.move (.tmp 7)), 4, "page.go:147", #[⟨4, .data⟩, ⟨4, .chain⟩], none⟩) (v := ?v_24) rfl (by kernel_rfl) (fun _ _ _ h => h) hSw1 (yieldsIf_of rfl ?hy_24) ?hrest_24
    case hy_24 => (intro w_ hS_; (first | (go_simp; done) | (go_simp; with_reducible rfl)))
    try simp only [Act.put, List.setIfInBounds_toArray, List.set_cons_zero, List.set_cons_succ]
    refine wpAnyL_take 6 (oi := ⟨(some 9), (.move (.tmp 0)), 63, "page.go:147", #[⟨5, .guard⟩], (some (5, false))⟩) (v := ?v_25) rfl (by kernel_rfl) (fun _ _ _ h => h) hSw1 (yieldsIf_of rfl ?hy_25) ?hrest_25
    case hy_25 => (intro w_ hS_; (first | (go_simp; done) | (go_simp; with_reducible rfl)))
    try simp only [Act.put, List.setIfInBounds_toArray, List.set_cons_zero, List.set_cons_succ]
    refine wpAnyL_take 7 (oi := ⟨(some 10), (.nilCheck (.tmp 9)), 0, "page.go:147", #[⟨6, .data⟩, ⟨5, .guard⟩], (some (5, false))⟩) (v := ?v_26) rfl (by kernel_rfl) (fun _ _ _ h => h) hSw1 (yieldsIf_of rfl ?hy_26) ?hrest_26
    case hy_26 => (intro w_ hS_; (first | (go_simp; done) | (go_simp; with_reducible rfl)))
    try simp only [Act.put, List.setIfInBounds_toArray, List.set_cons_zero, List.set_cons_succ]
    refine wpAnyL_take 8 (oi := ⟨(some 11), (.fieldAddr 91 (.tmp 10) 1), 0, "page.go:147", #[⟨7, .data⟩, ⟨5, .guard⟩], (some (5, false))⟩) (v := ?v_27) rfl (by kernel_rfl) (fun _ _ _ h => h) hSw1 (yieldsIf_of rfl ?hy_27) ?hrest_27
    case hy_27 => (intro w_ hS_; (first | (go_simp; done) | (go_simp; with_reducible rfl)))
    try simp only [Act.put, List.setIfInBounds_toArray, List.set_cons_zero, List.set_cons_succ]
    refine wpAnyL_take 9 (oi := ⟨(some 12), (.load 24 (.tmp 11)), 24, "page.go:147", #[⟨8, .data⟩, ⟨5, .guard⟩], (some (5, false))⟩) (v := ?v_28) rfl (by kernel_rfl) (fun _ _ _ h => h) hSw1 (yieldsIf_of rfl ?hy_28) ?hrest_28
    case hy_28 => (intro w_ hS_; have b2 := hS_.cell0 c2; have b3 := hS_.cell0 c3; (first | (go_simp; done) | (go_simp; with_reducible rfl)))
    try simp only [Act.put, List.setIfInBounds_toArray, List.set_cons_zero, List.set_cons_succ]
    refine wpAnyL_take 11 (oi := ⟨(some 14), (.move (.tmp 0)), 63, "page.go:147", #[⟨5, .guard⟩], (some (5, false))⟩) (v := ?v_29) rfl (by kernel_rfl) (fun _ _ _ h => h) hSw1 (yieldsIf_of rfl ?hy_29) ?hrest_29
    case hy_29 => (intro w_ hS_; (first | (go_simp; done) | (go_simp; with_reducible rfl)))
    try simp only [Act.put, List.setIfInBounds_toArray, List.set_cons_zero, List.set_cons_succ]
    refine wpAnyL_take 12 (oi := ⟨(some 15), (.nilCheck (.tmp 14)), 0, "page.go:147", #[⟨11, .data⟩, ⟨5, .guard⟩], (some (5, false))⟩) (v := ?v_30) rfl (by kernel_rfl) (fun _ _ _ h => h) hSw1 (yieldsIf_of rfl ?hy_30) ?hrest_30
    case hy_30 => (intro w_ hS_; (first | (go_simp; done) | (go_simp; with_reducible rfl)))
    try simp only [Act.put, List.setIfInBounds_toArray, List.set_cons_zero, List.set_cons_succ]
    refine wpAnyL_take 13 (oi := ⟨(some 16), (.fieldAddr 91 (.tmp 15) 2), 0, "page.go:147", #[⟨12, .data⟩, ⟨5, .guard⟩], (some (5, false))⟩) (v := ?v_31) rfl (by kernel_rfl) (fun _ _ _ h => h) hSw1 (yieldsIf_of rfl ?hy_31) ?hrest_31
    case hy_31 => (intro w_ hS_; (first | (go_simp; done) | (go_simp; with_reducible rfl)))
    try simp only [Act.put, List.setIfInBounds_toArray, List.set_cons_zero, List.set_cons_succ]
    refine wpAnyL_take 14 (oi := ⟨(some 17), (.load 3 (.tmp 16)), 3, "page.go:147", #[⟨13, .data⟩, ⟨5, .guard⟩], (some (5, false))⟩) (v := ?v_32) rfl (by kernel_rfl) (fun _ _ _ h => h) hSw1 (yieldsIf_of rfl ?hy_32) ?hrest_32
    case hy_32 => (intro w_ hS_; have b2 := hS_.cell0 c2; have b3 := hS_.cell0 c3; (first | (go_simp; done) | (go_simp; with_reducible rfl)))
    try simp only [Act.put, List.setIfInBounds_toArray, List.set_cons_zero, List.set_cons_succ]
    refine wpAnyL_one 10 (o := ⟨(some 13), (.call ⟨(.value (.func 76)), #[(.tmp 12)], #[24]⟩), 3, "page.go:147", #[⟨9, .data⟩, ⟨5, .chain⟩, ⟨5, .guard⟩], (some (5, false))⟩) rfl (by kernel_rfl) rfl (by kernel_rfl) (fun K hK => ?_)
    go_simp
    refine (HL.out _ (by assumption)).mono ?_
    rintro e w2 ⟨rfl, rfl⟩
    simp only []
    refine hK.out _ _ ?kS33 (fun hSw2 => ?kR33)
    case kS33 => assumption
    clear hK K
    try simp only [Act.put, List.setIfInBounds_toArray, List.set_cons_zero, List.set_cons_succ]
    refine wpAnyL_take 15 (oi := ⟨(some 18), (.binOp .neq 3 (.tmp 13) (.tmp 17) 3), 4, "page.go:147", #[⟨10, .data⟩, ⟨14, .data⟩, ⟨5, .guard⟩], (some (5, false))⟩) (v := ?v_34) rfl (by kernel_rfl) (fun _ _ _ h => h) hSw2 (yieldsIf_of rfl ?hy_34) ?hrest_34
    case hy_34 => (intro w_ hS_; (first | (go_simp; done) | (go_simp; with_reducible rfl)))
    try simp only [Act.put, List.setIfInBounds_toArray, List.set_cons_zero, List.set_cons_succ]
    refine wpAnyL_take 16 (oi := ⟨(some 19), (.pick (.tmp 8) (.const (.bool true)) (.tmp 18)), 4, "page.go:147", #[⟨5, .data⟩, ⟨15, .data⟩], none⟩) (v := ?v_35) rfl (by kernel_rfl) (fun _ _ _ h => h) hSw2 (yieldsIf_of rfl ?hy_35) ?hrest_35
    case hy_35 => (intro w_ hS_; (first | (go_simp; done) | (go_simp; with_reducible rfl)))
    try simp only [Act.put, List.setIfInBounds_toArray, List.set_cons_zero, List.set_cons_succ]
    refine wpAnyL_take 17 (oi := ⟨(some 2), (.assign (.tmp 19)), 4, "page.go:147", #[⟨16, .data⟩, ⟨10, .chain⟩, ⟨0, .phase⟩, ⟨1, .phase⟩, ⟨2, .phase⟩, ⟨3, .phase⟩, ⟨4, .phase⟩, ⟨5, .phase⟩, ⟨6, .phase⟩, ⟨7, .phase⟩, ⟨8, .phase⟩, ⟨9, .phase⟩, ⟨10, .phase⟩, ⟨11, .phase⟩, ⟨12, .phase⟩, ⟨13, .phase⟩, ⟨14, .phase⟩, ⟨15, .phase⟩, ⟨16, .phase⟩], none⟩) (v := ?v_36) rfl (by kernel_rfl) (fun _ _ _ h => h) hSw2 (yieldsIf_of rfl ?hy_36) ?hrest_36
    case hy_36 => (intro w_ hS_; (first | (go_simp; done) | (go_simp; with_reducible rfl)))
    try simp only [Act.put, List.setIfInBounds_toArray, List.set_cons_zero, List.set_cons_succ]
    refine wpAnyL_done (by kernel_rfl) ?_ _
    go_wp2
    go_ret
    refine ⟨?_, rfl⟩
    simp [hd, bne, beq_dec]
    omega
theorem root_calls {c : Nat → Nat} {r : Nat} {w : World} {st sm d m : Nat} {ov : Value} {S : SSt} {D : DSt} (h : StoreIn c r w st sm d m ov S D) :
    Calls Try.prog 45 #[.pointer (some ⟨st, 0, none⟩)] w fun e w' => e = .returned (.int .i64 S.root) ∧ w = w' := by
  have c5 := blk_cell h.blk 5 rfl
  clear h
  go_enter Try.func45, Try.ntmps45
  go_wp2
  go_ret
  exact ⟨rfl, rfl⟩
theorem number_calls {c : Nat → Nat} {r : Nat} {w : World} {st sm d m : Nat} {ov : Value} {S : SSt} {D : DSt} (h : StoreIn c r w st sm d m ov S D) (hn : S.num < 9223372036854775808) :
    Calls Try.prog 61 #[.pointer (some ⟨st, 0, none⟩)] w fun e w' => e = .returned (.int .i64 S.num) ∧ w = w' := by
  have c4 := blk_cell h.blk 4 rfl
  have e1 : IntKind.i64.wrap (S.num : Int) = (S.num : Int) := by rw [IntWalk.i64_in _ (by omega)]
  clear h
  go_enter Try.func61, Try.ntmps61
  go_wp2
  go_ret
  exact ⟨by simp [e1], rfl⟩
theorem is_calls {c : Nat → Nat} {r : Nat} {w : World} {st sm d m : Nat} {ov : Value} {S : SSt} {D : DSt} (h : StoreIn c r w st sm d m ov S D) (hp : S.pages ≤ 5000) (k : Nat) :
    Calls Try.prog 79 #[.pointer (some ⟨st, 0, none⟩), .int .i64 (k : Int)] w fun e w' => e = .returned (.bool (decide (2 ≤ k) && decide (k < 2 + S.pages))) ∧ w = w' := by
  have c0 := blk_cell h.blk 0 rfl
  clear h
  go_enter Try.func79, Try.ntmps79
  go_wp2
  all_goals
    go_ret
    refine ⟨?_, rfl⟩
    show Ending.returned (Value.bool _) = Ending.returned (Value.bool _)
    congr 2
    rw [Bool.eq_iff_iff]
    simp
    omega
theorem left_calls {c : Nat → Nat} {r : Nat} {w : World} {st sm d m : Nat} {ov : Value} {S : SSt} {D : DSt} (h : StoreIn c r w st sm d m ov S D) (hp : S.pages ≤ 5000) (hs : S.state.length ≤ S.pages) :
    Calls Try.prog 34 #[.pointer (some ⟨st, 0, none⟩)] w fun e w' => e = .returned (.int .i64 ((S.pages - S.state.length : Nat) : Int)) ∧ w' = w.drew := by
  have c0 := blk_cell h.blk 0 rfl
  have c1 := blk_cell h.blk 1 rfl
  have HL := Lib.hid (fun (w_ : World) (hf : Fr C0 w w_) => Go.H.run_len_map (P := Try.prog) (ats := #[66]) (ty := 3) rfl Try.underlying66 (h.map.fr hf (fun k => k)))
  have hv : (vmap S.state).length = S.state.length := by simp [vmap]
  clear h
  go_enter Try.func34, Try.ntmps34
  go_wp2
  refine wp_region_L (Fr C0 w) [] (by kernel_rfl) ?_
  have hSw0 : (Fr C0 w) _ := (Fr.refl C0 w).drew
  refine wpAnyL_take 0 (oi := ⟨(some 3), (.move (.tmp 0)), 130, "page.go:41", #[], none⟩) (v := ?v_37) rfl (by kernel_rfl) (fun _ _ _ h => h) hSw0 (yieldsIf_of rfl ?hy_37) ?hrest_37
  case hy_37 => (intro w_ hS_; (first | (go_simp; done) | (go_simp; with_reducible rfl)))
  try simp only [Act.put, List.setIfInBounds_toArray, List.set_cons_zero, List.set_cons_succ]
  refine wpAnyL_take 1 (oi := ⟨(some 4), (.nilCheck (.tmp 3)), 0, "page.go:41", #[⟨0, .data⟩], none⟩) (v := ?v_38) rfl (by kernel_rfl) (fun _ _ _ h => h) hSw0 (yieldsIf_of rfl ?hy_38) ?hrest_38
  case hy_38 => (intro w_ hS_; (first | (go_simp; done) | (go_simp; with_reducible rfl)))
  try simp only [Act.put, List.setIfInBounds_toArray, List.set_cons_zero, List.set_cons_succ]
  refine wpAnyL_take 2 (oi := ⟨(some 5), (.fieldAddr 86 (.tmp 4) 0), 0, "page.go:41", #[⟨1, .data⟩], none⟩) (v := ?v_39) rfl (by kernel_rfl) (fun _ _ _ h => h) hSw0 (yieldsIf_of rfl ?hy_39) ?hrest_39
  case hy_39 => (intro w_ hS_; (first | (go_simp; done) | (go_simp; with_reducible rfl)))
  try simp only [Act.put, List.setIfInBounds_toArray, List.set_cons_zero, List.set_cons_succ]
  refine wpAnyL_take 3 (oi := ⟨(some 6), (.load 3 (.tmp 5)), 3, "page.go:41", #[⟨2, .data⟩], none⟩) (v := ?v_40) rfl (by kernel_rfl) (fun _ _ _ h => h) hSw0 (yieldsIf_of rfl ?hy_40) ?hrest_40
  case hy_40 => (intro w_ hS_; have b0 := hS_.cell0 c0; have b1 := hS_.cell0 c1; have hl := HL.out _ hS_; (first | (go_simp; done) | (go_simp; with_reducible rfl)))
  try simp only [Act.put, List.setIfInBounds_toArray, List.set_cons_zero, List.set_cons_succ]
  refine wpAnyL_take 4 (oi := ⟨(some 7), (.move (.tmp 0)), 130, "page.go:41", #[], none⟩) (v := ?v_41) rfl (by kernel_rfl) (fun _ _ _ h => h) hSw0 (yieldsIf_of rfl ?hy_41) ?hrest_41
  case hy_41 => (intro w_ hS_; (first | (go_simp; done) | (go_simp; with_reducible rfl)))
  try simp only [Act.put, List.setIfInBounds_toArray, List.set_cons_zero, List.set_cons_succ]
  refine wpAnyL_take 5 (oi := ⟨(some 8), (.nilCheck (.tmp 7)), 0, "page.go:41", #[⟨4, .data⟩], none⟩) (v := ?v_42) rfl (by kernel_rfl) (fun _ _ _ h => h) hSw0 (yieldsIf_of rfl ?hy_42) ?hrest_42
  case hy_42 => (intro w_ hS_; (first | (go_simp; done) | (go_simp; with_reducible rfl)))
  try simp only [Act.put, List.setIfInBounds_toArray, List.set_cons_zero, List.set_cons_succ]
  refine wpAnyL_take 6 (oi := ⟨(some 9), (.fieldAddr 86 (.tmp 8) 1), 0, "page.go:41", #[⟨5, .data⟩], none⟩) (v := ?v_43) rfl (by kernel_rfl) (fun _ _ _ h => h) hSw0 (yieldsIf_of rfl ?hy_43) ?hrest_43
  case hy_43 => (intro w_ hS_; (first | (go_simp; done) | (go_simp; with_reducible rfl)))
  try simp only [Act.put, List.setIfInBounds_toArray, List.set_cons_zero, List.set_cons_succ]
  refine wpAnyL_take 7 (oi := ⟨(some 10), (.load 66 (.tmp 9)), 66, "page.go:41", #[⟨6, .data⟩], none⟩) (v := ?v_44) rfl (by kernel_rfl) (fun _ _ _ h => h) hSw0 (yieldsIf_of rfl ?hy_44) ?hrest_44
  case hy_44 => (intro w_ hS_; have b0 := hS_.cell0 c0; have b1 := hS_.cell0 c1; have hl := HL.out _ hS_; (first | (go_simp; done) | (go_simp; with_reducible rfl)))
  try simp only [Act.put, List.setIfInBounds_toArray, List.set_cons_zero, List.set_cons_succ]
  refine wpAnyL_take 8 (oi := ⟨(some 11), (.call ⟨(.builtin .len), #[(.tmp 10)], #[66]⟩), 3, "page.go:41", #[⟨7, .data⟩], none⟩) (v := ?v_45) rfl (by kernel_rfl) (fun _ _ _ h => h) hSw0 (yieldsIf_of rfl ?hy_45) ?hrest_45
  case hy_45 => (intro w_ hS_; have b0 := hS_.cell0 c0; have b1 := hS_.cell0 c1; have hl := HL.out _ hS_; (first | (go_simp; done) | (go_simp; with_reducible rfl)))
  try simp only [Act.put, List.setIfInBounds_toArray, List.set_cons_zero, List.set_cons_succ]
  refine wpAnyL_take 9 (oi := ⟨(some 12), (.binOp .sub 3 (.tmp 6) (.tmp 11) 3), 3, "page.go:41", #[⟨3, .data⟩, ⟨8, .data⟩], none⟩) (v := ?v_46) rfl (by kernel_rfl) (fun _ _ _ h => h) hSw0 (yieldsIf_of rfl ?hy_46) ?hrest_46
  case hy_46 => (intro w_ hS_; (first | (go_simp; done) | (go_simp; with_reducible rfl)))
  try simp only [Act.put, List.setIfInBounds_toArray, List.set_cons_zero, List.set_cons_succ]
  refine wpAnyL_take 10 (oi := ⟨(some 2), (.assign (.tmp 12)), 3, "page.go:41", #[⟨9, .data⟩, ⟨8, .chain⟩, ⟨0, .phase⟩, ⟨1, .phase⟩, ⟨2, .phase⟩, ⟨3, .phase⟩, ⟨4, .phase⟩, ⟨5, .phase⟩, ⟨6, .phase⟩, ⟨7, .phase⟩, ⟨8, .phase⟩, ⟨9, .phase⟩], none⟩) (v := ?v_47) rfl (by kernel_rfl) (fun _ _ _ h => h) hSw0 (yieldsIf_of rfl ?hy_47) ?hrest_47
  case hy_47 => (intro w_ hS_; (first | (go_simp; done) | (go_simp; with_reducible rfl)))
  try simp only [Act.put, List.setIfInBounds_toArray, List.set_cons_zero, List.set_cons_succ]
  refine wpAnyL_done (by kernel_rfl) ?_ _
  have e1 : IntKind.i64.wrap ((S.pages : Int) - (S.state.length : Int)) = ((S.pages - S.state.length : Nat) : Int) := by rw [IntWalk.i64_in _ (by omega)]; omega
  rw [e1]
  go_wp2
  go_ret
  exact ⟨rfl, rfl⟩
def SSt.freeFrom (S : SSt) (k : Nat) : Nat → Nat
  | 0 => 0
  | n + 1 => if S.at_ k = 0 then k else S.freeFrom (k + 1) n
def SSt.first (S : SSt) : Nat := S.freeFrom 2 S.pages
theorem first_calls {c : Nat → Nat} {r : Nat} {w : World} {st sm d m : Nat} {ov : Value} {S : SSt} {D : DSt} (h : StoreIn c r w st sm d m ov S D) (hp : S.pages ≤ 5000) :
    Calls Try.prog 87 #[.pointer (some ⟨st, 0, none⟩)] w fun e w' => e = .returned (.int .i64 S.first) ∧ w = w' := by
  have c0 := blk_cell h.blk 0 rfl
  have c1 := blk_cell h.blk 1 rfl
  have HL := fun k : Int => lookup_ints h.map k
  clear h
  go_enter Try.func87, Try.ntmps87
  go_wp2
  go_loopw [2, 3] (fun _ i wr => ∃ k n : Nat, k + n = 2 + S.pages ∧ 2 ≤ k ∧ i = .int .i64 (k : Int) ∧ wr = w ∧ Hid (S.freeFrom k n = S.first)) (fun _ i _ => 2 + S.pages - (intOf i).toNat)
  case atStart => exact ⟨2, S.pages, rfl, by omega, rfl, rfl, Lib.hid rfl⟩
  case round =>
    obtain ⟨k, n, hk, h2, rfl, rfl, HA⟩ := hrel
    cases n with
    | zero =>
      have ek : (k : Int) = 2 + (S.pages : Int) := by omega
      clear HL
      go_wp2
      go_ret
      exact ⟨by rw [← HA.out]; rfl, rfl⟩
    | succ n =>
      have hl := HL k
      have HA1 := HA.out
      unfold SSt.freeFrom at HA1
      have hlt : (k : Int) < 2 + (S.pages : Int) := by omega
      by_cases h0 : (aget (k : Int) S.state).getD 0 = 0
      · rw [if_pos (show S.at_ k = 0 from h0)] at HA1
        have HA2 := Lib.hid HA1
        clear HL HA1 HA
        go_wp2
        go_ret
        exact ⟨by rw [← HA2.out]; rfl, rfl⟩
      · rw [if_neg (show ¬ S.at_ k = 0 from h0)] at HA1
        have HA2 := Lib.hid HA1
        clear HL HA1 HA
        go_wp2
        go_roundw
        case rel => exact ⟨k + 1, n, by omega, by omega, by go_num, by trivial, HA2⟩
        case measure => simp [intOf]; omega
end Go.Proofs.Ytcmicdcikechkaa
end
