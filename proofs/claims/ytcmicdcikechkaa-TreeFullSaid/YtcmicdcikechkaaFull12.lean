import Derived.Test.YtcmicdcikechkaaFull10
import Derived.Test.YtcmicdcikechkaaFull11
import Derived.Test.YtcmicdcikechkaaFull02
set_option linter.all false
section
namespace Go.Proofs.Ytcmicdcikechkaa
open Go.RowKit Go.H
set_option maxHeartbeats 1000000
set_option maxRecDepth 100000
theorem ruint_calls {F : Nat → Prop} {w : World} {rd at_ n : Nat} {v : Value} {l rest : Bs} (hb : w.heap[rd]? = some (.cells #[v, .int .i64 (at_ : Int), .bool false] 164 (0, 0))) (hv : BytesAt F w v l) (hat : l.drop at_ = uintB n ++ rest) (hn : n < 16384) (hll : l.length ≤ 8192) :
    Calls Try.prog 102 #[.pointer (some ⟨rd, 0, none⟩)] w fun e w' => e = .returned (.int .i64 (n : Int)) ∧ w'.heap[rd]? = some (.cells #[v, .int .i64 ((at_ + (uintB n).length : Nat) : Int), .bool false] 164 (0, 0)) ∧ Fr (fun b => b = rd) w w' := by
  have c0 := blk_cell hb 0 rfl
  have c1 := blk_cell hb 1 rfl
  have c2 := blk_cell hb 2 rfl
  have z1 := blk_free 1 hb
  have HB := Lib.hid hb
  have HR := Lib.hid (fun (w_ : World) (hf : Fr C0 w w_) => readUint_calls (hv.fr0 hf) hat hn hll)
  obtain ⟨A, c, rfl, -⟩ := hv.form
  clear hb hv hat
  go_enter Try.func102, Try.ntmps102
  go_wp2
  refine wp_region_L (Fr C0 w) [] (by kernel_rfl) ?_
  have hSw0 : (Fr C0 w) _ := (Fr.refl C0 w).drew
  refine tk 0 ⟨(some 7), (.move (.tmp 0)), 162, "page.go:87", #[], none⟩ hSw0 ?_
  refine tk 1 ⟨(some 8), (.nilCheck (.tmp 7)), 0, "page.go:87", #[⟨0, .data⟩], none⟩ hSw0 ?_
  refine tk 2 ⟨(some 9), (.fieldAddr 164 (.tmp 8) 0), 0, "page.go:87", #[⟨1, .data⟩], none⟩ hSw0 ?_
  refine tk 3 ⟨(some 10), (.load 23 (.tmp 9)), 23, "page.go:87", #[⟨2, .data⟩], none⟩ hSw0 ?_ (by intro w_ hS_; have b0 := hS_.cell0 c0; have b1 := hS_.cell0 c1; first | (go_simp; done) | (go_simp; with_reducible rfl))
  refine tk 4 ⟨(some 11), (.move (.tmp 0)), 162, "page.go:87", #[], none⟩ hSw0 ?_
  refine tk 5 ⟨(some 12), (.nilCheck (.tmp 11)), 0, "page.go:87", #[⟨4, .data⟩], none⟩ hSw0 ?_
  refine tk 6 ⟨(some 13), (.fieldAddr 164 (.tmp 12) 1), 0, "page.go:87", #[⟨5, .data⟩], none⟩ hSw0 ?_
  refine tk 7 ⟨(some 14), (.load 3 (.tmp 13)), 3, "page.go:87", #[⟨6, .data⟩], none⟩ hSw0 ?_ (by intro w_ hS_; have b0 := hS_.cell0 c0; have b1 := hS_.cell0 c1; first | (go_simp; done) | (go_simp; with_reducible rfl))
  refine one_ 8 ⟨(some 15), (.call ⟨(.value (.func 108)), #[(.tmp 10), (.tmp 14)], #[23, 3]⟩), 173, "page.go:87", #[⟨3, .data⟩, ⟨7, .data⟩], none⟩ (fun K hK => ?_)
  go_simp
  refine (HR.out _ (Fr.refl C0 w).drew).mono ?_
  rintro e w2 ⟨rfl, rfl⟩
  simp only []
  refine hK.out _ _ ?kS1 (fun hSw1 => ?kR1)
  case kS1 => exact (Fr.refl C0 w).drew
  clear hK K
  try simp only [Act.put, List.setIfInBounds_toArray, List.set_cons_zero, List.set_cons_succ]
  refine tk 9 ⟨(some 6), (.move (.tmp 15)), 173, "page.go:87", #[⟨8, .data⟩], none⟩ hSw1 ?_
  refine tk 10 ⟨(some 16), (.extract (.tmp 6) 0), 3, "page.go:87", #[⟨9, .data⟩], none⟩ hSw1 ?_
  refine tk 11 ⟨(some 17), (.extract (.tmp 6) 1), 3, "page.go:87", #[⟨9, .data⟩, ⟨13, (.gcOnly Departure.lateStores)⟩], none⟩ hSw1 ?_
  refine tk 12 ⟨(some 18), (.extract (.tmp 6) 2), 28, "page.go:87", #[⟨9, .data⟩, ⟨14, (.gcOnly Departure.lateStores)⟩], none⟩ hSw1 ?_
  refine tk 13 ⟨(some 3), (.assign (.tmp 16)), 3, "page.go:87", #[⟨10, .data⟩, ⟨8, .chain⟩, ⟨0, .phase⟩, ⟨1, .phase⟩, ⟨2, .phase⟩, ⟨3, .phase⟩, ⟨4, .phase⟩, ⟨5, .phase⟩, ⟨6, .phase⟩, ⟨7, .phase⟩, ⟨8, .phase⟩, ⟨9, .phase⟩, ⟨10, .phase⟩, ⟨11, (.textOnly Departure.lateStores)⟩, ⟨12, (.textOnly Departure.lateStores)⟩], none⟩ hSw1 ?_
  refine tk 14 ⟨(some 4), (.assign (.tmp 17)), 3, "page.go:87", #[⟨11, .data⟩, ⟨13, .chain⟩, ⟨0, .phase⟩, ⟨1, .phase⟩, ⟨2, .phase⟩, ⟨3, .phase⟩, ⟨4, .phase⟩, ⟨5, .phase⟩, ⟨6, .phase⟩, ⟨7, .phase⟩, ⟨8, .phase⟩, ⟨9, .phase⟩, ⟨10, .phase⟩, ⟨11, .phase⟩, ⟨12, (.textOnly Departure.lateStores)⟩, ⟨13, .phase⟩], none⟩ hSw1 ?_
  refine tk 15 ⟨(some 5), (.assign (.tmp 18)), 28, "page.go:87", #[⟨12, .data⟩, ⟨14, .chain⟩, ⟨0, .phase⟩, ⟨1, .phase⟩, ⟨2, .phase⟩, ⟨3, .phase⟩, ⟨4, .phase⟩, ⟨5, .phase⟩, ⟨6, .phase⟩, ⟨7, .phase⟩, ⟨8, .phase⟩, ⟨9, .phase⟩, ⟨10, .phase⟩, ⟨11, .phase⟩, ⟨12, .phase⟩, ⟨13, .phase⟩, ⟨14, .phase⟩], none⟩ hSw1 ?_
  refine wpAnyL_done (by kernel_rfl) ?_ _
  go_wp2
  go_ret
  have e1 : (w.setCell ⟨rd, 1, none⟩ (.int .i64 ((at_ : Int) + ((uintB n).length : Int)))).drew.heap[rd]? = some (.cells #[.slice A l.length c, .int .i64 ((at_ : Int) + ((uintB n).length : Int)), .bool false] 164 (0, 0)) := blk_set (i := 1) HB.out _
  refine ⟨rfl, by simpa using e1, ((Fr.refl (fun b => b = rd) w).setCell (p := ⟨rd, 1, none⟩) (.inr rfl) _).drew⟩
theorem rtext_calls {F : Nat → Prop} {w : World} {rd at_ most : Nat} {v : Value} {l s rest : Bs} (hb : w.heap[rd]? = some (.cells #[v, .int .i64 (at_ : Int), .bool false] 164 (0, 0))) (hv : BytesAt F w v l) (hat : l.drop at_ = bytesB s ++ rest) (hn : s.length < 16384) (hm : s.length ≤ most) (hmm : most ≤ 100000) (hll : l.length ≤ 8192) :
    Calls Try.prog 103 #[.pointer (some ⟨rd, 0, none⟩), .int .i64 (most : Int)] w fun e w' => ∃ v', e = .returned v' ∧ BytesAt (fun b => w.heap.size ≤ b) w' v' s ∧ w'.heap[rd]? = some (.cells #[v, .int .i64 ((at_ + (bytesB s).length : Nat) : Int), .bool false] 164 (0, 0)) ∧ Fr (fun b => b = rd) w w' := by
  have c0 := blk_cell hb 0 rfl
  have c1 := blk_cell hb 1 rfl
  have c2 := blk_cell hb 2 rfl
  have z1 := blk_free 1 hb
  have HB := Lib.hid hb
  have hrd := (Array.getElem?_eq_some_iff.1 hb).1
  have HR := Lib.hid (fun (w_ : World) (hf : Fr C0 w w_) => readBytes_calls (hv.fr0 hf) hat hm hn hll hmm)
  obtain ⟨A, c, rfl, -⟩ := hv.form
  clear hb hv hat
  go_enter Try.func103, Try.ntmps103
  go_wp2
  refine wp_region_L (Fr C0 w) [] (by kernel_rfl) ?_
  have hSw0 : (Fr C0 w) _ := (Fr.refl C0 w).drew
  refine tk 0 ⟨(some 9), (.move (.tmp 0)), 162, "page.go:98", #[], none⟩ hSw0 ?_
  refine tk 1 ⟨(some 10), (.nilCheck (.tmp 9)), 0, "page.go:98", #[⟨0, .data⟩], none⟩ hSw0 ?_
  refine tk 2 ⟨(some 11), (.fieldAddr 164 (.tmp 10) 0), 0, "page.go:98", #[⟨1, .data⟩], none⟩ hSw0 ?_
  refine tk 3 ⟨(some 12), (.load 23 (.tmp 11)), 23, "page.go:98", #[⟨2, .data⟩], none⟩ hSw0 ?_ (by intro w_ hS_; have b0 := hS_.cell0 c0; have b1 := hS_.cell0 c1; first | (go_simp; done) | (go_simp; with_reducible rfl))
  refine tk 4 ⟨(some 13), (.move (.tmp 0)), 162, "page.go:98", #[], none⟩ hSw0 ?_
  refine tk 5 ⟨(some 14), (.nilCheck (.tmp 13)), 0, "page.go:98", #[⟨4, .data⟩], none⟩ hSw0 ?_
  refine tk 6 ⟨(some 15), (.fieldAddr 164 (.tmp 14) 1), 0, "page.go:98", #[⟨5, .data⟩], none⟩ hSw0 ?_
  refine tk 7 ⟨(some 16), (.load 3 (.tmp 15)), 3, "page.go:98", #[⟨6, .data⟩], none⟩ hSw0 ?_ (by intro w_ hS_; have b0 := hS_.cell0 c0; have b1 := hS_.cell0 c1; first | (go_simp; done) | (go_simp; with_reducible rfl))
  refine tk 8 ⟨(some 17), (.move (.tmp 1)), 3, "page.go:98", #[], none⟩ hSw0 ?_
  refine one_ 9 ⟨(some 18), (.call ⟨(.value (.func 109)), #[(.tmp 12), (.tmp 16), (.tmp 17)], #[23, 3, 3]⟩), 175, "page.go:98", #[⟨3, .data⟩, ⟨7, .data⟩, ⟨8, .data⟩], none⟩ (fun K hK => ?_)
  go_simp
  refine (HR.out _ (Fr.refl C0 w).drew).mono ?_
  rintro e w2 ⟨v2, rfl, f2, o2⟩
  simp only []
  have F2 := Lib.hid ((Fr.refl C0 w).drew.trans0 f2)
  have O2 := Lib.hid (BytesAt.ofOwn o2 (fun b e => (o2.lt b e).1))
  clear f2 o2
  refine hK.out _ _ ?kS2 (fun hSw1 => ?kR2)
  case kS2 => exact F2.out
  clear hK K
  try simp only [Act.put, List.setIfInBounds_toArray, List.set_cons_zero, List.set_cons_succ]
  refine tk 10 ⟨(some 8), (.move (.tmp 18)), 175, "page.go:98", #[⟨9, .data⟩], none⟩ hSw1 ?_
  refine tk 11 ⟨(some 19), (.extract (.tmp 8) 0), 23, "page.go:98", #[⟨10, .data⟩], none⟩ hSw1 ?_
  refine tk 12 ⟨(some 20), (.extract (.tmp 8) 1), 3, "page.go:98", #[⟨10, .data⟩, ⟨14, (.gcOnly Departure.lateStores)⟩], none⟩ hSw1 ?_
  refine tk 13 ⟨(some 21), (.extract (.tmp 8) 2), 28, "page.go:98", #[⟨10, .data⟩, ⟨15, (.gcOnly Departure.lateStores)⟩], none⟩ hSw1 ?_
  refine tk 14 ⟨(some 5), (.assign (.tmp 19)), 23, "page.go:98", #[⟨11, .data⟩, ⟨9, .chain⟩, ⟨0, .phase⟩, ⟨1, .phase⟩, ⟨2, .phase⟩, ⟨3, .phase⟩, ⟨4, .phase⟩, ⟨5, .phase⟩, ⟨6, .phase⟩, ⟨7, .phase⟩, ⟨8, .phase⟩, ⟨9, .phase⟩, ⟨10, .phase⟩, ⟨11, .phase⟩, ⟨12, (.textOnly Departure.lateStores)⟩, ⟨13, (.textOnly Departure.lateStores)⟩], none⟩ hSw1 ?_
  refine tk 15 ⟨(some 6), (.assign (.tmp 20)), 3, "page.go:98", #[⟨12, .data⟩, ⟨14, .chain⟩, ⟨0, .phase⟩, ⟨1, .phase⟩, ⟨2, .phase⟩, ⟨3, .phase⟩, ⟨4, .phase⟩, ⟨5, .phase⟩, ⟨6, .phase⟩, ⟨7, .phase⟩, ⟨8, .phase⟩, ⟨9, .phase⟩, ⟨10, .phase⟩, ⟨11, .phase⟩, ⟨12, .phase⟩, ⟨13, (.textOnly Departure.lateStores)⟩, ⟨14, .phase⟩], none⟩ hSw1 ?_
  refine tk 16 ⟨(some 7), (.assign (.tmp 21)), 28, "page.go:98", #[⟨13, .data⟩, ⟨15, .chain⟩, ⟨0, .phase⟩, ⟨1, .phase⟩, ⟨2, .phase⟩, ⟨3, .phase⟩, ⟨4, .phase⟩, ⟨5, .phase⟩, ⟨6, .phase⟩, ⟨7, .phase⟩, ⟨8, .phase⟩, ⟨9, .phase⟩, ⟨10, .phase⟩, ⟨11, .phase⟩, ⟨12, .phase⟩, ⟨13, .phase⟩, ⟨14, .phase⟩, ⟨15, .phase⟩], none⟩ hSw1 ?_
  refine wpAnyL_done (by kernel_rfl) ?_ _
  have d2 := F2.out.cell0 c2
  have d1 := F2.out.cell0 c1
  have hb2 := F2.out.blk HB.out (fun h => h)
  have y1 := blk_free 1 hb2
  have HB2 := Lib.hid hb2
  clear hb2
  go_wp2
  go_ret
  have hf := (Fr.refl (fun b => b = rd) w2).setCell (p := ⟨rd, 1, none⟩) (.inr rfl) (.int .i64 ((at_ : Int) + ((bytesB s).length : Int)))
  have e1 : (w2.setCell ⟨rd, 1, none⟩ (.int .i64 ((at_ : Int) + ((bytesB s).length : Int)))).heap[rd]? = some (.cells #[.slice A l.length c, .int .i64 ((at_ : Int) + ((bytesB s).length : Int)), .bool false] 164 (0, 0)) := blk_set (i := 1) HB2.out _
  refine ⟨v2, rfl, O2.out.fr hf (fun b h e => by have : w.drew.heap.size = w.heap.size := rfl; omega), by simpa using e1, (F2.out.mono (fun _ _ h => h.elim)).trans hf (fun _ _ h => h)⟩
end Go.Proofs.Ytcmicdcikechkaa
end
section
namespace Go.H
open Go.RowKit
inductive ItemCells (F : Nat → Prop) (w : World) : List Value → List KV → Prop
  | nil : ItemCells F w [] []
  | cons {x : KV} {kv vv : Value} {xs : List Value} {l : List KV} : BytesAt F w kv x.1 → BytesAt F w vv x.2 → ItemCells F w xs l → ItemCells F w (kv :: vv :: xs) (x :: l)
namespace ItemCells
variable {F F' C : Nat → Prop} {w w' : World}
theorem fr (hf : Fr C w w') (hd : ∀ b, F b → ¬ C b) : ∀ {xs : List Value} {l : List KV}, ItemCells F w xs l → ItemCells F w' xs l
  | _, _, .nil => .nil
  | _, _, .cons h1 h2 h3 => .cons (h1.fr hf hd) (h2.fr hf hd) (fr hf hd h3)
theorem fr0 {xs : List Value} {l : List KV} (h : ItemCells F w xs l) (hf : Fr C0 w w') : ItemCells F w' xs l := h.fr hf (fun _ _ h => h)
theorem mono (hF : ∀ b, F b → b < w.heap.size → F' b) : ∀ {xs : List Value} {l : List KV}, ItemCells F w xs l → ItemCells F' w xs l
  | _, _, .nil => .nil
  | _, _, .cons h1 h2 h3 => .cons (h1.mono hF) (h2.mono hF) (mono hF h3)
theorem append {ys : List Value} {m : List KV} (k : ItemCells F w ys m) : ∀ {xs : List Value} {l : List KV}, ItemCells F w xs l → ItemCells F w (xs ++ ys) (l ++ m)
  | _, _, .nil => k
  | _, _, .cons h1 h2 h3 => .cons h1 h2 (append k h3)
theorem length : ∀ {xs : List Value} {l : List KV}, ItemCells F w xs l → xs.length = l.length * 2
  | _, _, .nil => rfl
  | _, _, .cons h1 h2 h3 => by have := length h3; simp only [List.length_cons]; omega
theorem take : ∀ {xs : List Value} {l : List KV} (i : Nat), ItemCells F w xs l → ItemCells F w (xs.take (i * 2)) (l.take i)
  | _, _, i, .nil => by simpa using nil
  | _, _, 0, .cons h1 h2 h3 => by simpa using nil
  | _, _, i + 1, .cons h1 h2 h3 => by
    rw [show (i + 1) * 2 = i * 2 + 1 + 1 by omega]
    exact .cons h1 h2 (take i h3)
theorem drop : ∀ {xs : List Value} {l : List KV} (i : Nat), ItemCells F w xs l → ItemCells F w (xs.drop (i * 2)) (l.drop i)
  | _, _, i, .nil => by simpa using nil
  | _, _, 0, .cons h1 h2 h3 => by simpa using cons h1 h2 h3
  | _, _, i + 1, .cons h1 h2 h3 => by
    rw [show (i + 1) * 2 = i * 2 + 1 + 1 by omega]
    exact drop i h3
theorem at_ : ∀ {xs : List Value} {l : List KV} (i : Nat) (hi : i < l.length), ItemCells F w xs l → ∃ kv vv, xs[i * 2]? = some kv ∧ xs[i * 2 + 1]? = some vv ∧ BytesAt F w kv l[i].1 ∧ BytesAt F w vv l[i].2
  | _, _, i, hi, .nil => by simp at hi
  | _, _, 0, hi, .cons h1 h2 h3 => ⟨_, _, rfl, rfl, h1, h2⟩
  | _, _, i + 1, hi, .cons h1 h2 h3 => by
    have := at_ i (by simpa using hi) h3
    rw [show (i + 1) * 2 = i * 2 + 1 + 1 by omega]
    exact this
theorem one : ∀ {xs : List Value} {l : List KV}, ItemCells F w xs l → ∀ u ∈ xs, u.oneCell' = true
  | _, _, .nil, u, hu => by simp at hu
  | _, _, .cons h1 h2 h3, u, hu => by
    obtain ⟨_, _, rfl, _⟩ := h1
    obtain ⟨_, _, rfl, _⟩ := h2
    rcases List.mem_cons.1 hu with rfl | hu
    · rfl
    · rcases List.mem_cons.1 hu with rfl | hu
      · rfl
      · exact one h3 u hu
theorem ofAll : ∀ {xs : List Value} {l : List KV}, xs.length = l.length * 2 → (∀ j (h : j < l.length), ∃ kv vv, xs[j * 2]? = some kv ∧ xs[j * 2 + 1]? = some vv ∧ BytesAt F w kv l[j].1 ∧ BytesAt F w vv l[j].2) → ItemCells F w xs l
  | [], [], _, _ => .nil
  | [], x :: l, h, _ => by simp at h
  | x :: xs, [], h, _ => by simp at h
  | [x], y :: l, h, _ => by simp only [List.length_cons, List.length_nil] at h; omega
  | x :: y :: xs, z :: l, h, hc => by
    obtain ⟨kv, vv, a1, a2, a3, a4⟩ := hc 0 (by simp)
    simp at a1 a2
    subst a1; subst a2
    refine .cons a3 a4 (ofAll (by simp only [List.length_cons] at h; omega) fun j hj => ?_)
    have := hc (j + 1) (by simpa using hj)
    rw [show (j + 1) * 2 = j * 2 + 1 + 1 by omega] at this
    exact this
end ItemCells
theorem cellsRow {w : World} {g o : Nat} : ∀ (n : Nat), (∀ j, j < n → ∃ u, w.cell? ⟨g, o + j, none⟩ = some u) → ∃ xs : List Value, xs.length = n ∧ ∀ j u, xs[j]? = some u → w.cell? ⟨g, o + j, none⟩ = some u
  | 0, _ => ⟨[], rfl, by simp⟩
  | n + 1, h => by
    obtain ⟨xs, h1, h2⟩ := cellsRow n (fun j hj => h j (by omega))
    obtain ⟨u, hu⟩ := h n (by omega)
    refine ⟨xs ++ [u], by simp [h1], fun j v hj => ?_⟩
    rw [List.getElem?_append] at hj
    split at hj
    · exact h2 j v hj
    · rename_i hl
      rw [h1] at hl hj
      have : j = n := by
        rcases Nat.lt_or_ge j n with a | a
        · omega
        · have hlt : j - n < 1 := by
            have := List.getElem?_eq_some_iff.1 hj
            obtain ⟨hh, _⟩ := this
            simpa using hh
          omega
      subst this
      simp at hj
      rw [← hj]; exact hu
theorem ItemsAt.cells {F : Nat → Prop} {w : World} {v : Value} {l : List KV} (h : ItemsAt F w v l) : ∃ xs, Row F w v l.length 2 xs ∧ ItemCells F w xs l := by
  obtain ⟨A, c, rfl, h1, h2, h3⟩ := h
  by_cases hl : l = []
  · subst hl
    exact ⟨[], ⟨A, c, rfl, h1, h2, by simp, fun h => absurd rfl h⟩, .nil⟩
  · obtain ⟨g, o, rfl, hF, hc⟩ := h3 hl
    obtain ⟨xs, x1, x2⟩ := cellsRow (w := w) (g := g) (o := o) (l.length * 2) (fun j hj => by
      obtain ⟨kv, vv, a1, a2, a3, a4⟩ := hc (j / 2) (by omega)
      by_cases he : j % 2 = 0
      · exact ⟨kv, by rw [show o + j = o + j / 2 * 2 by omega]; exact a1⟩
      · exact ⟨vv, by rw [show o + j = o + j / 2 * 2 + 1 by omega]; exact a2⟩)
    refine ⟨xs, ⟨_, c, rfl, h1, h2, by rw [x1], fun _ => ⟨g, o, rfl, hF, x2⟩⟩, .ofAll x1 fun j hj => ?_⟩
    obtain ⟨kv, vv, a1, a2, a3, a4⟩ := hc j hj
    have b1 := x2 (j * 2) (xs[j * 2]'(by omega)) (by simp)
    have b2 := x2 (j * 2 + 1) (xs[j * 2 + 1]'(by omega)) (by simp)
    rw [a1] at b1
    rw [← Nat.add_assoc, a2] at b2
    injection b1 with b1
    injection b2 with b2
    exact ⟨kv, vv, by rw [b1]; exact List.getElem?_eq_getElem _, by rw [b2]; exact List.getElem?_eq_getElem _, a3, a4⟩
theorem ItemsAt.ofCells {F : Nat → Prop} {w : World} {v : Value} {l : List KV} {xs : List Value} (h : Row F w v l.length 2 xs) (hc : ItemCells F w xs l) : ItemsAt F w v l := by
  obtain ⟨A, c, rfl, h1, h2, h3, h4⟩ := h
  refine ⟨A, c, rfl, h1, h2, fun hl => ?_⟩
  obtain ⟨g, o, rfl, hF, hx⟩ := h4 (by rintro rfl; exact hl (List.eq_nil_of_length_eq_zero (by have : ([] : List Value).length = 0 := rfl; omega)))
  refine ⟨g, o, rfl, hF, fun j hj => ?_⟩
  obtain ⟨kv, vv, a1, a2, a3, a4⟩ := hc.at_ j hj
  exact ⟨kv, vv, hx _ _ a1, by rw [Nat.add_assoc]; exact hx _ _ a2, a3, a4⟩
end Go.H
end
