import Derived.Test.YtcmicdcikechkaaGreatAgain04
import Derived.Laws.Shifts
import Derived.Test.YtcmicdcikechkaaGreatAgain45
set_option linter.all false
namespace Go.Proofs.YtcmicdcikechkaaGreat
open Go.RowKit Go.H
set_option maxRecDepth 100000
section
set_option maxHeartbeats 4000000
def FateRes (w : World) (e : Ending) (w' : World) : Prop := ∃ r : Int, (r = 0 ∨ r = 1 ∨ r = 2) ∧ e = .returned (.int .i64 r) ∧ Fr C0 w w'
theorem fate_calls {w : World} {a kp tn ct : Int} {i : Nat} (hi : i < 4611686018427387904) :
    Calls Tryz.prog 88 #[.agg #[.int .i64 a, .int .u64 kp, .int .i64 tn, .int .i64 ct], .int .i64 (i : Int)] w (FateRes w) := by
  obtain ⟨j, hj, hj2⟩ : ∃ j : Nat, j < 64 ∧ (i : Int).tmod 64 = (j : Int) := ⟨i % 64, by omega, by rw [Int.tmod_eq_emod_of_nonneg (by omega)]; omega⟩
  have hw : IntKind.i64.wrap (j : Int) = (j : Int) := wraps_i64 _ (by omega) (by omega)
  have F1 := Lib.hid ((Fr.refl C0 w).alloc (.cells #[.int .i64 a, .int .u64 kp, .int .i64 tn, .int .i64 ct] 41))
  by_cases ht : (i : Int) = tn
  · have ht2 : ((i : Int) == tn) = true := by simp [ht]
    go_enter Tryz.func88, Tryz.ntmps88
    go_wp2
    go_ret
    exact ⟨1, by omega, rfl, F1.out⟩
  · have ht2 : ((i : Int) == tn) = false := by simp [ht]
    have hnn : ¬ (j : Int) < 0 := by omega
    go_enter Tryz.func88, Tryz.ntmps88
    go_wp2
    all_goals
      go_ret
      exact ⟨_, by omega, rfl, F1.out⟩
def layUp (s : DSt) (f : Nat → Option Nat) (l : List (Nat × Bs)) : Nat → DSt
  | 0 => s
  | n + 1 => match f n, l[n]? with
    | some m, some p => (layUp s f l n).lay p.1 p.2 m
    | _, _ => layUp s f l n
theorem layUp_congr {s : DSt} {f g : Nat → Option Nat} {l : List (Nat × Bs)} : ∀ {n : Nat}, (∀ i, i < n → f i = g i) → layUp s f l n = layUp s g l n
  | 0, _ => rfl
  | n + 1, h => by simp only [layUp, h n (by omega), layUp_congr (n := n) (fun i hi => h i (by omega))]
theorem layUp_rest (s : DSt) (f : Nat → Option Nat) (l : List (Nat × Bs)) : ∀ n, layUp s f l n = { s with kept := (layUp s f l n).kept }
  | 0 => rfl
  | n + 1 => by
    have ih := layUp_rest s f l n
    simp only [layUp]
    split
    · show ({ layUp s f l n with kept := _ } : DSt) = _
      rw [ih]; rfl
    · exact ih
def cutF (s : DSt) (f : Nat → Option Nat) : DSt := { layUp s f s.opn s.opn.length with opn := [], after := 0, keep := 0, torn := 0, cut := 0, down := true, life := wrap64 (s.life + 1) }
theorem layUp_set {s : DSt} {f : Nat → Option Nat} {l : List (Nat × Bs)} {n : Nat} (hn : n < l.length) (o : Option Nat) : layUp s (fun i => if i = n then o else f i) l (n + 1) = match o with
    | some m => (layUp s f l n).lay l[n].1 l[n].2 m
    | none => layUp s f l n := by
  have h := layUp_congr (s := s) (l := l) (f := fun i => if i = n then o else f i) (g := f) (n := n) (fun i hi => if_neg (by omega))
  simp only [layUp, if_pos, h, List.getElem?_eq_getElem hn]
  cases o <;> rfl
theorem cutf_le {f : Nat → Option Nat} {n : Nat} (hf : ∀ i k, f i = some k → k ≤ 8192) (o : Option Nat) (ho : ∀ k, o = some k → k ≤ 8192) : ∀ i k, (fun i => if i = n then o else f i) i = some k → k ≤ 8192 := fun i k h => by
  by_cases e : i = n
  · simp only [e, if_true] at h; exact ho k h
  · simp only [e, if_false] at h; exact hf i k h
theorem cut_calls {F : Nat → Prop} {w : World} {d m : Nat} {ov : Value} {s : DSt} {a kp tn ct : Int} (h : DiskA F w d m ov s) (hd : s.down = false) (hF : ∀ b, w.heap.size ≤ b → F b) (hm : ¬ F m) (hdF : ¬ F d) (hdm : d ≠ m) (hom : ∀ b, ov.ownBlock = some b → b ≠ m) (hod : ∀ b, ov.ownBlock = some b → b ≠ d) :
    Calls Tryz.prog 55 #[.pointer (some ⟨d, 0, none⟩), .agg #[.int .i64 a, .int .u64 kp, .int .i64 tn, .int .i64 ct]] w fun e w' => e = .returned (.tuple #[]) ∧ Hid (∃ f, (∀ i n, f i = some n → n ≤ 8192) ∧ DiskA F w' d m (.slice none 0 0) (cutF s f) ∧ Fr (fun b => b = m ∨ b = d) w w') := by
  have F1' := (Fr.refl C0 w).alloc (.cells #[.int .i64 a, .int .u64 kp, .int .i64 tn, .int .i64 ct] 41)
  have F1 := Lib.hid F1'
  have hdl : d < w.heap.size := (Array.getElem?_eq_some_iff.1 h.blk).1
  have hml : m < w.heap.size := by obtain ⟨M, k1, _⟩ := h.kept; exact k1.lt
  have h := h.fr0 F1'
  have L0 := heap_alloc_new w (.cells #[.int .i64 a, .int .u64 kp, .int .i64 tn, .int .i64 ct] 41)
  have l1 := blk_cell L0 0 rfl
  have l2 := blk_cell L0 1 rfl
  have l3 := blk_cell L0 2 rfl
  have l4 := blk_cell L0 3 rfl
  have HL0 := Lib.hid L0
  have HD := Lib.hid h
  have h3 := blk_cell h.blk 3 rfl
  have h2 := blk_cell h.blk 2 rfl
  obtain ⟨xs, o1, o2⟩ := h.opn
  have HR := Lib.hid (Row.ofOwn o1 (F := fun b => b < w.heap.size + 1 ∧ b ≠ m ∧ b ≠ d) (fun b hb => ⟨by have := (o1.lt b hb).2; simpa using this, hom b hb, hod b hb⟩))
  have HO := Lib.hid o2
  have HOM := Lib.hid hom
  have hs := h.small
  obtain ⟨A, c, rfl, hc1, hc2⟩ := HR.out.form
  clear h o1 o2 hom L0
  rw [hd] at h3
  have hct : (ct < 0 ∧ ¬ (0 : Int) < ct) ∨ (∃ nn : Nat, ct = (nn : Int) ∧ nn ≤ 8192 ∧ ¬ (8192 : Int) < (nn : Int)) ∨ (8192 < ct ∧ ¬ ct < 0 ∧ (0 : Int) < ct ∧ ¬ ct < 8192) := by
    rcases Int.lt_or_le ct 0 with h | h
    · exact .inl ⟨h, by omega⟩
    · rcases Int.lt_or_le 8192 ct with h2 | h2
      · exact .inr (.inr (by omega))
      · exact .inr (.inl ⟨ct.toNat, by omega, by omega, by omega⟩)
  rcases hct with ⟨h01, h02⟩ | ⟨nn, rfl, hn1, h01⟩ | ⟨h01, h02, h03, h04⟩
  · skip
    go_enter Tryz.func55, Tryz.ntmps55
    go_wp2
    go_loopw [16] (fun i wr => ∃ n : Nat, n ≤ s.opn.length ∧ i = .int .i64 (n : Int) ∧ Hid (∃ f, (∀ i k, f i = some k → k ≤ 8192) ∧ DiskA F wr d m (.slice A s.opn.length c) (layUp s f s.opn n)) ∧ Hid (Fr (fun b => b = m) (w.alloc (.cells #[.int .i64 a, .int .u64 kp, .int .i64 tn, .int .i64 _] 41)) wr)) (fun i _ => s.opn.length - (intOf i).toNat)
    case atStart => exact ⟨0, Nat.zero_le _, by go_num, Lib.hid ⟨fun _ => none, fun _ _ h => by simp at h, HD.out⟩, Lib.hid (Fr.refl _ _)⟩
    case round =>
      obtain ⟨n, hn, rfl, HDn, HF⟩ := hrel
      by_cases hlt : n < s.opn.length
      · obtain ⟨q1, v, q2, q3, q4⟩ := HO.out.at_ n hlt
        obtain ⟨g, o, rfl, hg, hc⟩ := HR.out.cells q1
        have r1 := HF.out.cell (hc _ _ q1) hg.2.1
        have r2 : wr.cell? ⟨g, o + n * 2 + 1, none⟩ = some v := HF.out.cell (hc _ _ q2) hg.2.1
        have q3' : BytesAt F wr v s.opn[n].2 := q3.fr HF.out (fun b hb h => hm (h ▸ hb))
        obtain ⟨vA, vc, rfl, -⟩ := id q3
        have k1 := fun ob => (HF.out.alloc ob).cell l1 (by show ¬ w.heap.size = m; omega)
        have k2 := fun ob => (HF.out.alloc ob).cell l2 (by show ¬ w.heap.size = m; omega)
        have k3 := fun ob => (HF.out.alloc ob).cell l3 (by show ¬ w.heap.size = m; omega)
        have k4 := fun ob => (HF.out.alloc ob).cell l4 (by show ¬ w.heap.size = m; omega)
        rw [q4] at r2 q3'
        obtain ⟨f, hfb, hdn⟩ := HDn.out
        have FW := Lib.hid ((Fr.refl C0 wr).alloc (.cells #[.int .i64 (s.opn[n].1 : Int), .slice vA 8192 vc] 153))
        have HB := Lib.hid (heap_alloc_new wr (.cells #[.int .i64 (s.opn[n].1 : Int), .slice vA 8192 vc] 153))
        have Q3 := Lib.hid q3'
        have Q4 := Lib.hid q4
        have HFB := Lib.hid hfb
        have HL := Lib.hid (fun (w_ : World) (hf_ : Fr C0 wr w_) (n' : Nat) (hn' : n' ≤ 8192) => lay_calls (hdn.fr0 hf_) (q3'.fr0 hf_) q4 (n := n') hn' (k := s.opn[n].1) (fun b hb => hF b (by have := HF.out.size; have := hf_.size; rw [show (w.alloc (.cells #[.int .i64 a, .int .u64 kp, .int .i64 tn, .int .i64 _] 41)).heap.size = w.heap.size + 1 by simp] at *; omega)) hm hdm HOM.out)
        have HDM := Lib.hid hdn
        clear q1 q2 q3 q4 hc HO HR q3' hfb hdn HDn
        go_wp2_with fail
        refine fate_calls (by omega) |>.mono ?_
        rintro e w4 ⟨r, hr, rfl, f4⟩
        have F4 := Lib.hid (FW.out.trans0 f4)
        have HB4 := f4.blk HB.out (fun h => h)
        have u1 : w4.cell? ⟨wr.heap.size, 0, none⟩ = some (.int .i64 (s.opn[n].1 : Int)) := blk_cell HB4 0 rfl
        have u2 : w4.cell? ⟨wr.heap.size, 1, none⟩ = some (.slice vA 8192 vc) := blk_cell HB4 1 rfl
        clear f4 HB FW HB4
        rcases hr with rfl | rfl | rfl
        · go_wp2
          go_roundw
          case rel => exact ⟨n + 1, by omega, by go_num, Lib.hid ⟨fun i => if i = n then none else f i, fun i k h => (cutf_le HFB.out none (fun _ h => by cases h)) i k h, by rw [layUp_set hlt]; exact HDM.out.fr0 F4.out⟩, Lib.hid (HF.out.trans0 F4.out)⟩
          case measure => simp [intOf]; omega
        · go_wp2_with fail
          refine (HL.out _ F4.out 0 (by omega)).mono ?_
          rintro e w5 ⟨rfl, d5, f5⟩
          go_wp2
          go_roundw
          case rel => exact ⟨n + 1, by omega, by go_num, Lib.hid ⟨fun i => if i = n then some 0 else f i, fun i k h => (cutf_le HFB.out (some 0) (fun k h => by injection h with h; omega)) i k h, by rw [layUp_set hlt]; exact d5⟩, Lib.hid ((HF.out.trans0 F4.out).trans f5 (fun _ _ h => h))⟩
          case measure => simp [intOf]; omega
        · go_wp2_with fail
          refine (HL.out _ F4.out 8192 (by omega)).mono ?_
          rintro e w5 ⟨rfl, d5, f5⟩
          go_wp2
          go_roundw
          case rel => exact ⟨n + 1, by omega, by go_num, Lib.hid ⟨fun i => if i = n then some 8192 else f i, fun i k h => (cutf_le HFB.out (some 8192) (fun k h => by injection h with h; omega)) i k h, by rw [layUp_set hlt]; exact d5⟩, Lib.hid ((HF.out.trans0 F4.out).trans f5 (fun _ _ h => h))⟩
          case measure => simp [intOf]; omega
      · obtain rfl : n = s.opn.length := by omega
        obtain ⟨f, hfb, hdn⟩ := HDn.out
        have HDM := Lib.hid hdn
        have HFB := Lib.hid hfb
        have z2 := blk_free 2 hdn.blk
        have z3 := blk_free 3 hdn.blk
        have z4 := blk_free 4 hdn.blk
        have z5 := blk_free 5 hdn.blk
        have z6 := blk_free 6 hdn.blk
        have z7 := blk_free 7 hdn.blk
        have z8 := blk_free 8 hdn.blk
        have c2 := blk_cell hdn.blk 2 rfl
        have c3 := blk_cell hdn.blk 3 rfl
        have c4 : wr.cell? ⟨d, 4, none⟩ = some (.int .i64 s.life) := by have := blk_cell hdn.blk 4 rfl; rw [layUp_rest] at this; exact this
        have c5 := blk_cell hdn.blk 5 rfl
        have c6 := blk_cell hdn.blk 6 rfl
        have c7 := blk_cell hdn.blk 7 rfl
        have c8 := blk_cell hdn.blk 8 rfl
        clear HDn HO HR hfb hdn
        go_wp2_with fail
        go_end0
        have FS : Fr (fun b => b = d) wr (((((((wr.setCell ⟨d, 2, none⟩ (.slice none 0 0)).setCell ⟨d, 5, none⟩ (.int .i64 0)).setCell ⟨d, 6, none⟩ (.int .u64 0)).setCell ⟨d, 7, none⟩ (.int .i64 0)).setCell ⟨d, 8, none⟩ (.int .i64 0)).setCell ⟨d, 3, none⟩ (.bool true)).setCell ⟨d, 4, none⟩ (.int .i64 (wrap64 (s.life + 1)))) := (((((((Fr.refl (fun b => b = d) wr).setCell (.inr rfl) _).setCell (.inr rfl) _).setCell (.inr rfl) _).setCell (.inr rfl) _).setCell (.inr rfl) _).setCell (.inr rfl) _).setCell (.inr rfl) _
        have hb := blk_set (i := 4) (blk_set (i := 3) (blk_set (i := 8) (blk_set (i := 7) (blk_set (i := 6) (blk_set (i := 5) (blk_set (i := 2) HDM.out.blk (.slice none 0 0)) (.int .i64 0)) (.int .u64 0)) (.int .i64 0)) (.int .i64 0)) (.bool true)) (.int .i64 (wrap64 (s.life + 1)))
        have e9 : cutF s f = ⟨s.blocks, (layUp s f s.opn s.opn.length).kept, [], true, wrap64 (s.life + 1), 0, 0, 0, 0⟩ := by unfold cutF; rw [layUp_rest]
        rw [layUp_rest] at hb
        refine ⟨rfl, Lib.hid ⟨f, HFB.out, ?_, ((F1.out.mono (fun _ _ h => h.elim)).trans (HF.out.mono (fun _ _ h => .inl h)) (fun _ _ h => h)).trans FS (fun _ _ h => .inr h)⟩⟩
        rw [e9]
        have hk9 := HDM.out.kept.fr FS (fun h => hdm h.symm) (fun b hb h => hdF (h ▸ hb))
        generalize wrap64 (s.life + 1) = lf at *
        exact ⟨hb, hk9, ⟨[], World.ownsRow_nil _ _ _ _, .nil⟩, by simp⟩
  · skip
    go_enter Tryz.func55, Tryz.ntmps55
    go_wp2
    go_loopw [16] (fun i wr => ∃ n : Nat, n ≤ s.opn.length ∧ i = .int .i64 (n : Int) ∧ Hid (∃ f, (∀ i k, f i = some k → k ≤ 8192) ∧ DiskA F wr d m (.slice A s.opn.length c) (layUp s f s.opn n)) ∧ Hid (Fr (fun b => b = m) (w.alloc (.cells #[.int .i64 a, .int .u64 kp, .int .i64 tn, .int .i64 _] 41)) wr)) (fun i _ => s.opn.length - (intOf i).toNat)
    case atStart => exact ⟨0, Nat.zero_le _, by go_num, Lib.hid ⟨fun _ => none, fun _ _ h => by simp at h, HD.out⟩, Lib.hid (Fr.refl _ _)⟩
    case round =>
      obtain ⟨n, hn, rfl, HDn, HF⟩ := hrel
      by_cases hlt : n < s.opn.length
      · obtain ⟨q1, v, q2, q3, q4⟩ := HO.out.at_ n hlt
        obtain ⟨g, o, rfl, hg, hc⟩ := HR.out.cells q1
        have r1 := HF.out.cell (hc _ _ q1) hg.2.1
        have r2 : wr.cell? ⟨g, o + n * 2 + 1, none⟩ = some v := HF.out.cell (hc _ _ q2) hg.2.1
        have q3' : BytesAt F wr v s.opn[n].2 := q3.fr HF.out (fun b hb h => hm (h ▸ hb))
        obtain ⟨vA, vc, rfl, -⟩ := id q3
        have k1 := fun ob => (HF.out.alloc ob).cell l1 (by show ¬ w.heap.size = m; omega)
        have k2 := fun ob => (HF.out.alloc ob).cell l2 (by show ¬ w.heap.size = m; omega)
        have k3 := fun ob => (HF.out.alloc ob).cell l3 (by show ¬ w.heap.size = m; omega)
        have k4 := fun ob => (HF.out.alloc ob).cell l4 (by show ¬ w.heap.size = m; omega)
        rw [q4] at r2 q3'
        obtain ⟨f, hfb, hdn⟩ := HDn.out
        have FW := Lib.hid ((Fr.refl C0 wr).alloc (.cells #[.int .i64 (s.opn[n].1 : Int), .slice vA 8192 vc] 153))
        have HB := Lib.hid (heap_alloc_new wr (.cells #[.int .i64 (s.opn[n].1 : Int), .slice vA 8192 vc] 153))
        have Q3 := Lib.hid q3'
        have Q4 := Lib.hid q4
        have HFB := Lib.hid hfb
        have HL := Lib.hid (fun (w_ : World) (hf_ : Fr C0 wr w_) (n' : Nat) (hn' : n' ≤ 8192) => lay_calls (hdn.fr0 hf_) (q3'.fr0 hf_) q4 (n := n') hn' (k := s.opn[n].1) (fun b hb => hF b (by have := HF.out.size; have := hf_.size; rw [show (w.alloc (.cells #[.int .i64 a, .int .u64 kp, .int .i64 tn, .int .i64 _] 41)).heap.size = w.heap.size + 1 by simp] at *; omega)) hm hdm HOM.out)
        have HDM := Lib.hid hdn
        clear q1 q2 q3 q4 hc HO HR q3' hfb hdn HDn
        go_wp2_with fail
        refine fate_calls (by omega) |>.mono ?_
        rintro e w4 ⟨r, hr, rfl, f4⟩
        have F4 := Lib.hid (FW.out.trans0 f4)
        have HB4 := f4.blk HB.out (fun h => h)
        have u1 : w4.cell? ⟨wr.heap.size, 0, none⟩ = some (.int .i64 (s.opn[n].1 : Int)) := blk_cell HB4 0 rfl
        have u2 : w4.cell? ⟨wr.heap.size, 1, none⟩ = some (.slice vA 8192 vc) := blk_cell HB4 1 rfl
        clear f4 HB FW HB4
        rcases hr with rfl | rfl | rfl
        · go_wp2
          go_roundw
          case rel => exact ⟨n + 1, by omega, by go_num, Lib.hid ⟨fun i => if i = n then none else f i, fun i k h => (cutf_le HFB.out none (fun _ h => by cases h)) i k h, by rw [layUp_set hlt]; exact HDM.out.fr0 F4.out⟩, Lib.hid (HF.out.trans0 F4.out)⟩
          case measure => simp [intOf]; omega
        · go_wp2_with fail
          refine (HL.out _ F4.out nn (by omega)).mono ?_
          rintro e w5 ⟨rfl, d5, f5⟩
          go_wp2
          go_roundw
          case rel => exact ⟨n + 1, by omega, by go_num, Lib.hid ⟨fun i => if i = n then some nn else f i, fun i k h => (cutf_le HFB.out (some nn) (fun k h => by injection h with h; omega)) i k h, by rw [layUp_set hlt]; exact d5⟩, Lib.hid ((HF.out.trans0 F4.out).trans f5 (fun _ _ h => h))⟩
          case measure => simp [intOf]; omega
        · go_wp2_with fail
          refine (HL.out _ F4.out 8192 (by omega)).mono ?_
          rintro e w5 ⟨rfl, d5, f5⟩
          go_wp2
          go_roundw
          case rel => exact ⟨n + 1, by omega, by go_num, Lib.hid ⟨fun i => if i = n then some 8192 else f i, fun i k h => (cutf_le HFB.out (some 8192) (fun k h => by injection h with h; omega)) i k h, by rw [layUp_set hlt]; exact d5⟩, Lib.hid ((HF.out.trans0 F4.out).trans f5 (fun _ _ h => h))⟩
          case measure => simp [intOf]; omega
      · obtain rfl : n = s.opn.length := by omega
        obtain ⟨f, hfb, hdn⟩ := HDn.out
        have HDM := Lib.hid hdn
        have HFB := Lib.hid hfb
        have z2 := blk_free 2 hdn.blk
        have z3 := blk_free 3 hdn.blk
        have z4 := blk_free 4 hdn.blk
        have z5 := blk_free 5 hdn.blk
        have z6 := blk_free 6 hdn.blk
        have z7 := blk_free 7 hdn.blk
        have z8 := blk_free 8 hdn.blk
        have c2 := blk_cell hdn.blk 2 rfl
        have c3 := blk_cell hdn.blk 3 rfl
        have c4 : wr.cell? ⟨d, 4, none⟩ = some (.int .i64 s.life) := by have := blk_cell hdn.blk 4 rfl; rw [layUp_rest] at this; exact this
        have c5 := blk_cell hdn.blk 5 rfl
        have c6 := blk_cell hdn.blk 6 rfl
        have c7 := blk_cell hdn.blk 7 rfl
        have c8 := blk_cell hdn.blk 8 rfl
        clear HDn HO HR hfb hdn
        go_wp2_with fail
        go_end0
        have FS : Fr (fun b => b = d) wr (((((((wr.setCell ⟨d, 2, none⟩ (.slice none 0 0)).setCell ⟨d, 5, none⟩ (.int .i64 0)).setCell ⟨d, 6, none⟩ (.int .u64 0)).setCell ⟨d, 7, none⟩ (.int .i64 0)).setCell ⟨d, 8, none⟩ (.int .i64 0)).setCell ⟨d, 3, none⟩ (.bool true)).setCell ⟨d, 4, none⟩ (.int .i64 (wrap64 (s.life + 1)))) := (((((((Fr.refl (fun b => b = d) wr).setCell (.inr rfl) _).setCell (.inr rfl) _).setCell (.inr rfl) _).setCell (.inr rfl) _).setCell (.inr rfl) _).setCell (.inr rfl) _).setCell (.inr rfl) _
        have hb := blk_set (i := 4) (blk_set (i := 3) (blk_set (i := 8) (blk_set (i := 7) (blk_set (i := 6) (blk_set (i := 5) (blk_set (i := 2) HDM.out.blk (.slice none 0 0)) (.int .i64 0)) (.int .u64 0)) (.int .i64 0)) (.int .i64 0)) (.bool true)) (.int .i64 (wrap64 (s.life + 1)))
        have e9 : cutF s f = ⟨s.blocks, (layUp s f s.opn s.opn.length).kept, [], true, wrap64 (s.life + 1), 0, 0, 0, 0⟩ := by unfold cutF; rw [layUp_rest]
        rw [layUp_rest] at hb
        refine ⟨rfl, Lib.hid ⟨f, HFB.out, ?_, ((F1.out.mono (fun _ _ h => h.elim)).trans (HF.out.mono (fun _ _ h => .inl h)) (fun _ _ h => h)).trans FS (fun _ _ h => .inr h)⟩⟩
        rw [e9]
        have hk9 := HDM.out.kept.fr FS (fun h => hdm h.symm) (fun b hb h => hdF (h ▸ hb))
        generalize wrap64 (s.life + 1) = lf at *
        exact ⟨hb, hk9, ⟨[], World.ownsRow_nil _ _ _ _, .nil⟩, by simp⟩
  · skip
    go_enter Tryz.func55, Tryz.ntmps55
    go_wp2
    go_loopw [16] (fun i wr => ∃ n : Nat, n ≤ s.opn.length ∧ i = .int .i64 (n : Int) ∧ Hid (∃ f, (∀ i k, f i = some k → k ≤ 8192) ∧ DiskA F wr d m (.slice A s.opn.length c) (layUp s f s.opn n)) ∧ Hid (Fr (fun b => b = m) (w.alloc (.cells #[.int .i64 a, .int .u64 kp, .int .i64 tn, .int .i64 _] 41)) wr)) (fun i _ => s.opn.length - (intOf i).toNat)
    case atStart => exact ⟨0, Nat.zero_le _, by go_num, Lib.hid ⟨fun _ => none, fun _ _ h => by simp at h, HD.out⟩, Lib.hid (Fr.refl _ _)⟩
    case round =>
      obtain ⟨n, hn, rfl, HDn, HF⟩ := hrel
      by_cases hlt : n < s.opn.length
      · obtain ⟨q1, v, q2, q3, q4⟩ := HO.out.at_ n hlt
        obtain ⟨g, o, rfl, hg, hc⟩ := HR.out.cells q1
        have r1 := HF.out.cell (hc _ _ q1) hg.2.1
        have r2 : wr.cell? ⟨g, o + n * 2 + 1, none⟩ = some v := HF.out.cell (hc _ _ q2) hg.2.1
        have q3' : BytesAt F wr v s.opn[n].2 := q3.fr HF.out (fun b hb h => hm (h ▸ hb))
        obtain ⟨vA, vc, rfl, -⟩ := id q3
        have k1 := fun ob => (HF.out.alloc ob).cell l1 (by show ¬ w.heap.size = m; omega)
        have k2 := fun ob => (HF.out.alloc ob).cell l2 (by show ¬ w.heap.size = m; omega)
        have k3 := fun ob => (HF.out.alloc ob).cell l3 (by show ¬ w.heap.size = m; omega)
        have k4 := fun ob => (HF.out.alloc ob).cell l4 (by show ¬ w.heap.size = m; omega)
        rw [q4] at r2 q3'
        obtain ⟨f, hfb, hdn⟩ := HDn.out
        have FW := Lib.hid ((Fr.refl C0 wr).alloc (.cells #[.int .i64 (s.opn[n].1 : Int), .slice vA 8192 vc] 153))
        have HB := Lib.hid (heap_alloc_new wr (.cells #[.int .i64 (s.opn[n].1 : Int), .slice vA 8192 vc] 153))
        have Q3 := Lib.hid q3'
        have Q4 := Lib.hid q4
        have HFB := Lib.hid hfb
        have HL := Lib.hid (fun (w_ : World) (hf_ : Fr C0 wr w_) (n' : Nat) (hn' : n' ≤ 8192) => lay_calls (hdn.fr0 hf_) (q3'.fr0 hf_) q4 (n := n') hn' (k := s.opn[n].1) (fun b hb => hF b (by have := HF.out.size; have := hf_.size; rw [show (w.alloc (.cells #[.int .i64 a, .int .u64 kp, .int .i64 tn, .int .i64 _] 41)).heap.size = w.heap.size + 1 by simp] at *; omega)) hm hdm HOM.out)
        have HDM := Lib.hid hdn
        clear q1 q2 q3 q4 hc HO HR q3' hfb hdn HDn
        go_wp2_with fail
        refine fate_calls (by omega) |>.mono ?_
        rintro e w4 ⟨r, hr, rfl, f4⟩
        have F4 := Lib.hid (FW.out.trans0 f4)
        have HB4 := f4.blk HB.out (fun h => h)
        have u1 : w4.cell? ⟨wr.heap.size, 0, none⟩ = some (.int .i64 (s.opn[n].1 : Int)) := blk_cell HB4 0 rfl
        have u2 : w4.cell? ⟨wr.heap.size, 1, none⟩ = some (.slice vA 8192 vc) := blk_cell HB4 1 rfl
        clear f4 HB FW HB4
        rcases hr with rfl | rfl | rfl
        · go_wp2
          go_roundw
          case rel => exact ⟨n + 1, by omega, by go_num, Lib.hid ⟨fun i => if i = n then none else f i, fun i k h => (cutf_le HFB.out none (fun _ h => by cases h)) i k h, by rw [layUp_set hlt]; exact HDM.out.fr0 F4.out⟩, Lib.hid (HF.out.trans0 F4.out)⟩
          case measure => simp [intOf]; omega
        · go_wp2_with fail
          refine (HL.out _ F4.out 8192 (by omega)).mono ?_
          rintro e w5 ⟨rfl, d5, f5⟩
          go_wp2
          go_roundw
          case rel => exact ⟨n + 1, by omega, by go_num, Lib.hid ⟨fun i => if i = n then some 8192 else f i, fun i k h => (cutf_le HFB.out (some 8192) (fun k h => by injection h with h; omega)) i k h, by rw [layUp_set hlt]; exact d5⟩, Lib.hid ((HF.out.trans0 F4.out).trans f5 (fun _ _ h => h))⟩
          case measure => simp [intOf]; omega
        · go_wp2_with fail
          refine (HL.out _ F4.out 8192 (by omega)).mono ?_
          rintro e w5 ⟨rfl, d5, f5⟩
          go_wp2
          go_roundw
          case rel => exact ⟨n + 1, by omega, by go_num, Lib.hid ⟨fun i => if i = n then some 8192 else f i, fun i k h => (cutf_le HFB.out (some 8192) (fun k h => by injection h with h; omega)) i k h, by rw [layUp_set hlt]; exact d5⟩, Lib.hid ((HF.out.trans0 F4.out).trans f5 (fun _ _ h => h))⟩
          case measure => simp [intOf]; omega
      · obtain rfl : n = s.opn.length := by omega
        obtain ⟨f, hfb, hdn⟩ := HDn.out
        have HDM := Lib.hid hdn
        have HFB := Lib.hid hfb
        have z2 := blk_free 2 hdn.blk
        have z3 := blk_free 3 hdn.blk
        have z4 := blk_free 4 hdn.blk
        have z5 := blk_free 5 hdn.blk
        have z6 := blk_free 6 hdn.blk
        have z7 := blk_free 7 hdn.blk
        have z8 := blk_free 8 hdn.blk
        have c2 := blk_cell hdn.blk 2 rfl
        have c3 := blk_cell hdn.blk 3 rfl
        have c4 : wr.cell? ⟨d, 4, none⟩ = some (.int .i64 s.life) := by have := blk_cell hdn.blk 4 rfl; rw [layUp_rest] at this; exact this
        have c5 := blk_cell hdn.blk 5 rfl
        have c6 := blk_cell hdn.blk 6 rfl
        have c7 := blk_cell hdn.blk 7 rfl
        have c8 := blk_cell hdn.blk 8 rfl
        clear HDn HO HR hfb hdn
        go_wp2_with fail
        go_end0
        have FS : Fr (fun b => b = d) wr (((((((wr.setCell ⟨d, 2, none⟩ (.slice none 0 0)).setCell ⟨d, 5, none⟩ (.int .i64 0)).setCell ⟨d, 6, none⟩ (.int .u64 0)).setCell ⟨d, 7, none⟩ (.int .i64 0)).setCell ⟨d, 8, none⟩ (.int .i64 0)).setCell ⟨d, 3, none⟩ (.bool true)).setCell ⟨d, 4, none⟩ (.int .i64 (wrap64 (s.life + 1)))) := (((((((Fr.refl (fun b => b = d) wr).setCell (.inr rfl) _).setCell (.inr rfl) _).setCell (.inr rfl) _).setCell (.inr rfl) _).setCell (.inr rfl) _).setCell (.inr rfl) _).setCell (.inr rfl) _
        have hb := blk_set (i := 4) (blk_set (i := 3) (blk_set (i := 8) (blk_set (i := 7) (blk_set (i := 6) (blk_set (i := 5) (blk_set (i := 2) HDM.out.blk (.slice none 0 0)) (.int .i64 0)) (.int .u64 0)) (.int .i64 0)) (.int .i64 0)) (.bool true)) (.int .i64 (wrap64 (s.life + 1)))
        have e9 : cutF s f = ⟨s.blocks, (layUp s f s.opn s.opn.length).kept, [], true, wrap64 (s.life + 1), 0, 0, 0, 0⟩ := by unfold cutF; rw [layUp_rest]
        rw [layUp_rest] at hb
        refine ⟨rfl, Lib.hid ⟨f, HFB.out, ?_, ((F1.out.mono (fun _ _ h => h.elim)).trans (HF.out.mono (fun _ _ h => .inl h)) (fun _ _ h => h)).trans FS (fun _ _ h => .inr h)⟩⟩
        rw [e9]
        have hk9 := HDM.out.kept.fr FS (fun h => hdm h.symm) (fun b hb h => hdF (h ▸ hb))
        generalize wrap64 (s.life + 1) = lf at *
        exact ⟨hb, hk9, ⟨[], World.ownsRow_nil _ _ _ _, .nil⟩, by simp⟩
end
section
set_option maxHeartbeats 2000000
theorem ddead_calls {c : Nat → Nat} {r : Nat} {w : World} {tp st sm d m : Nat} {ov : Value} {S : SSt} {D : DSt} (hs : StoreIn c r w st sm d m ov S D) (c0 : w.cell? ⟨tp, 0, none⟩ = some (.pointer (some ⟨st, 0, none⟩))) (hd : D.down = true) :
    Calls Tryz.prog 45 #[.pointer (some ⟨tp, 0, none⟩)] w fun e w' => e = .returned (.bool true) ∧ w' = w.drew := by
  have H := Lib.hid (dead_calls hs)
  rw [hd, Bool.true_or] at H
  clear hs
  go_enter Tryz.func45, Tryz.ntmps45
  go_wp2_with fail
  refine H.out.mono ?_
  rintro e w1 ⟨rfl, rfl⟩
  go_wp2
  go_ret
  exact ⟨rfl, rfl⟩
theorem dmay_calls {w : World} {tp A n cp B m cq : Nat} {u v : Value} (HD : Hid (Calls Tryz.prog 45 #[.pointer (some ⟨tp, 0, none⟩)] w fun e w' => e = .returned (.bool true) ∧ w' = w.drew)) :
    Calls Tryz.prog 40 #[.pointer (some ⟨tp, 0, none⟩), u, v] w fun e w' => e = .returned (.int .i64 20) ∧ w' = w.drew := by
  go_enter Tryz.func40, Tryz.ntmps40
  go_wp2_with fail
  refine HD.out.mono ?_
  rintro e w1 ⟨rfl, rfl⟩
  go_wp2
  go_ret
  exact ⟨rfl, rfl⟩
theorem dget_calls {c : Nat → Nat} {r : Nat} {w : World} {tp st sm d m : Nat} {ov u : Value} {S : SSt} {D : DSt} (hs : StoreIn c r w st sm d m ov S D) (c0 : w.cell? ⟨tp, 0, none⟩ = some (.pointer (some ⟨st, 0, none⟩))) (hd : D.down = true) :
    Calls Tryz.prog 13 #[.pointer (some ⟨tp, 0, none⟩), u] w fun e w' => e = .returned (.tuple #[.slice none 0 0, .bool false, .int .i64 20]) ∧ Fr C0 w w' := by
  have F0 := Lib.hid ((Fr.refl C0 w).alloc (.cells #[.int .i64 0] 28))
  have HM := Lib.hid (fun (w_ : World) (hf : Fr C0 w w_) => dmay_calls (A := 0) (n := 0) (cp := 0) (B := 0) (m := 0) (cq := 0) (u := u) (v := .slice none 0 0) (Lib.hid (ddead_calls (hs.fr0 hf) (hf.cell0 c0) hd)))
  clear hs c0
  go_enter_defers Tryz.func13, Tryz.ntmps13
  go_wp2_with fail
  refine (HM.out _ F0.out).mono ?_
  rintro e w1 ⟨rfl, rfl⟩
  have e0 := blk_cell (heap_alloc_new w (.cells #[.int .i64 0] 28)) 0 rfl
  have ze := blk_free 0 (heap_alloc_new w (.cells #[.int .i64 0] 28))
  go_wp2_with fail
  simp [bodyPostD, Leaves, settle, results, Tryz.results13, go_sem]
  exact ((Fr.refl C0 w).alloc _).drew
theorem restart_calls {F : Nat → Prop} {w : World} {d m : Nat} {ov : Value} {s : DSt} (h : DiskA F w d m ov s) (hdm : d ≠ m) (hdF : ¬ F d) (hov : ∀ b, ov.ownBlock = some b → b ≠ d) :
    Calls Tryz.prog 27 #[.pointer (some ⟨d, 0, none⟩)] w fun e w' => e = .returned (.tuple #[]) ∧ DiskA F w' d m ov { s with down := false } ∧ Fr (fun b => b = d) w w' := by
  have HD := Lib.hid h
  have z := blk_free 3 h.blk
  have c3 := blk_cell h.blk 3 rfl
  clear h
  go_enter Tryz.func27, Tryz.ntmps27
  go_wp2
  go_end0
  have FS : Fr (fun b => b = d) w (w.setCell ⟨d, 3, none⟩ (.bool false)) := (Fr.refl (fun b => b = d) w).setCell (.inr rfl) _
  have hb := blk_set (i := 3) HD.out.blk (.bool false)
  refine ⟨rfl, ⟨hb, HD.out.kept.fr FS (fun h => hdm h.symm) (fun b hb h => hdF (h ▸ hb)), ?_, HD.out.small⟩, FS⟩
  obtain ⟨xs, o1, o2⟩ := HD.out.opn
  exact ⟨xs, own_kept o1 FS hov, o2.fr FS (fun b hb h => hdF (h ▸ hb))⟩
theorem cutF_nil {D : DSt} {f : Nat → Option Nat} (h : D.opn = []) : cutF D f = { D with opn := [], after := 0, keep := 0, torn := 0, cut := 0, down := true, life := wrap64 (D.life + 1) } := by
  unfold cutF
  rw [h]; rfl
theorem again_at {w0 w : World} {pn r d tp N k : Nat} {La Ll : List KV} {c : Nat → Nat} {a kp tn ct : Int} (hr1 : 1 ≤ r) (h : At1 w0 pn r d tp La Ll N k c w) (h1 : 1 ≤ pn) (h2 : pn ≤ 4000) :
    Calls Tryz.prog 19 #[.pointer (some ⟨d, 0, none⟩), .pointer (some ⟨tp, 0, none⟩), .agg #[.int .i64 a, .int .u64 kp, .int .i64 tn, .int .i64 ct]] w fun e w' => ∃ tp', e = .returned (.pointer (some ⟨tp', 0, none⟩)) ∧ Hid (∃ c', At1 w0 pn r d tp' Ll Ll N k c' w' ∧ Fr (OwnR r c) w w' ∧ Ag w.heap.size c c') := by
  obtain ⟨Z, g, rfl, rfl, i⟩ := h
  have G := Lib.hid g
  have I := Lib.hid i
  obtain ⟨st, lm, km, nr, lr, gv, ov, sn, t⟩ := g.tr
  obtain ⟨sm, d', m, ov', s⟩ := t.hd.store
  have hd := s.dk.trans i.dk
  subst hd
  have L := Lib.hid (t.loose i.af s (by rw [i.pages]; exact h1) (by rw [i.pages]; exact h2))
  have S := Lib.hid s
  have hopn := t.bk.opn
  have hdown := t.hd.alive.down
  have halive := t.hd.alive.size
  have hcl := t.cl
  have c0 := t.hd.cell
  have htd : tp ≠ d' := fun e => by have h1 := t.blk; rw [e, s.disk.blk] at h1; simp [TreeCells] at h1
  have htm : tp ≠ m := fun e => by have h1 := t.blk; obtain ⟨M, ⟨es, k, h2, _⟩, _⟩ := s.disk.kept; rw [e, h2] at h1; simp at h1
  have hsd : st ≠ d' := s.st_d
  have hstm : st ≠ m := s.st_m
  have hr0 : r ≠ 0 := by omega
  have F0 := Lib.hid ((Fr.refl C0 w).alloc (.cells #[.int .i64 a, .int .u64 kp, .int .i64 tn, .int .i64 ct] 41))
  have HCUT := Lib.hid (fun (w_ : World) (hf : Fr C0 w w_) => cut_calls (a := a) (kp := kp) (tn := tn) (ct := ct) (s.disk.fr0 hf) hdown (fun b hb => hcl b (by have := hf.size; omega)) (fun e => hr0 (s.om.symm.trans e)) (fun e => hr0 (s.od.symm.trans e)) s.d_m s.ov_m s.ov_d)
  have C0' := Lib.hid c0
  have HCL := Lib.hid hcl
  clear t s i g c0 hcl
  go_enter Tryz.func19, Tryz.ntmps19
  go_wp2_with fail
  refine (HCUT.out _ F0.out).mono ?_
  rintro e w1 ⟨rfl, H1⟩
  obtain ⟨f, -, d1, f1⟩ := H1.out
  rw [cutF_nil hopn] at d1
  have F1 := Lib.hid ((F0.out.mono (C2 := fun b => b = m ∨ b = d') (fun _ _ h => h.elim)).trans f1 (fun _ _ h => h))
  have CL1 := Lib.hid (HCL.out.mono F1.out.size)
  have L1 := Lib.hid (L.out.like d1 CL1.out S.out.od S.out.om (fun b e => by simp [Value.ownBlock] at e) (fun b e => by simp [Value.ownBlock] at e) rfl rfl rfl (by show (0 : Int) < 1; omega))
  have S1 : Hid (StoreIn c r w1 st sm d' m (.slice none 0 0) Z.S _) := Lib.hid ⟨F1.out.blk S.out.blk (fun e => by rcases e with e | e; exact hstm e; exact hsd e), S.out.map.fr F1.out (fun e => by rcases e with e | e; exact S.out.ne e; exact S.out.d_sm e.symm), d1, S.out.ost, S.out.osm, S.out.od, S.out.om, fun b e => by simp [Value.ownBlock] at e, S.out.ne, S.out.dk⟩
  have c1 := F1.out.cell C0'.out (fun e => by rcases e with e | e; exact htm e; exact htd e)
  have HGET := Lib.hid (fun (w_ : World) (u : Value) (hf : Fr C0 w1 w_) => dget_calls (u := u) (S1.out.fr0 hf) (hf.cell0 c1) rfl)
  have HDD := Lib.hid (fun (w_ : World) (hf : Fr C0 w1 w_) => ddead_calls (S1.out.fr0 hf) (hf.cell0 c1) rfl)
  have HRS := Lib.hid (fun (w_ : World) (hf : Fr C0 w1 w_) => restart_calls (d1.fr0 hf) L.out.dm (fun e => hr0 (S.out.od.symm.trans e)) (fun b e => by simp [Value.ownBlock] at e))
  have hcv := Go.Joins.run_convert_bytes_const_at (P := Tryz.prog) w1 30 5 #[.int .u8 107] 1 1 w1.heap.size rfl Tryz.underlying30 Tryz.underlying5
  clear H1 d1 f1 c1 HCUT S1
  go_wp2_with fail
  refine (HGET.out _ _ ((Fr.refl C0 w1).alloc _)).mono ?_
  rintro e w2 ⟨rfl, f2⟩
  have F2 := Lib.hid (((Fr.refl C0 w1).alloc (.cells #[.int .u8 107] 5 (1, 2))).trans0 f2)
  clear f2 HGET hcv
  go_wp2_with fail
  refine (HDD.out _ F2.out).mono ?_
  rintro e w3 ⟨rfl, rfl⟩
  have F3 := Lib.hid F2.out.drew
  clear F2 HDD
  go_wp2_with fail
  refine (HRS.out _ F3.out).mono ?_
  rintro e w4 ⟨rfl, d4, f4⟩
  have L4 := Lib.hid (L1.out.like d4 ((CL1.out.mono F3.out.size).mono f4.size) S.out.od S.out.om (fun b e => by simp [Value.ownBlock] at e) (fun b e => by simp [Value.ownBlock] at e) rfl rfl rfl (by show (0 : Int) < 1; omega))
  have HOP := Lib.hid (L4.out.open_ (own_r hr1) rfl)
  have F4 := Lib.hid (((F1.out.trans F3.out (fun _ _ h => h.elim)).trans f4 (fun b _ e => .inr e)).mono (C2 := OwnR r c) (fun b _ e => by rcases e with e | e; exact .inl (by rw [e]; exact S.out.om); exact .inl (by rw [e]; exact S.out.od)))
  clear d4 f4 HRS L1 F1 F3 CL1
  go_wp2_with fail
  refine HOP.out.mono ?_
  rintro e w5 ⟨f5, (⟨hx, _⟩ | ⟨tp', c5, Z5, rfl, ag5, t5, e1, e2, e3, e4, e5, e6⟩)⟩
  · exact hx.elim
  have F5 := Lib.hid (F4.out.trans f5 (fun b _ e => .inl e))
  have hag : Ag w.heap.size c c5 := fun b hb => ag5 b (by have := F4.out.size; omega)
  have HEND : Hid (∃ c', At1 w0 pn r d' tp' (rootL Z.last) (rootL Z.last) N k c' w5 ∧ Fr (OwnR r c) w w5 ∧ Ag w.heap.size c c') := Lib.hid ⟨c5, ⟨Z5, ⟨G.out.fr.trans F5.out (fun b hb e => ?_), fun b hb => (hag b (by have := G.out.fr.size; omega)).trans (G.out.ag b hb), t5⟩, by rw [e2], by rw [e3], ⟨e4.trans I.out.num, by rw [e2]; exact I.out.last, by rw [e3]; exact I.out.last, ?_, e6, I.out.nk, by rw [e1]; show (0 : Int) < 1; omega⟩⟩, F5.out, hag⟩
  · clear f5 ag5 t5 e1 e2 e3 e4 e5 e6 HOP L4 F4 hag
    go_wp2
    go_ret
    exact ⟨tp', rfl, HEND⟩
  · have h1 : c b = 0 := G.out.ag b hb
    have e' : c b = r ∨ c b = r + 1 ∨ c b = r + 2 := e
    omega
  · rw [e5]
    have h1 := I.out.pages
    have h2 := halive
    show Z.D.blocks - 2 = pn
    omega
end
end Go.Proofs.YtcmicdcikechkaaGreat
