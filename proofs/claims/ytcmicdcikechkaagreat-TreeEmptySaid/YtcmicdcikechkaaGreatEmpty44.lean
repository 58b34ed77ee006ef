/- TreeEmpty returns true for every input, and leaves what came in as it was. No condition. -/
import Derived.Test.YtcmicdcikechkaaGreatEmpty43
import Derived.Test.YtcmicdcikechkaaGreatEmpty33
set_option linter.all false
section
namespace Go.Proofs.YtcmicdcikechkaaGreat
open Go.RowKit Go.H
set_option maxHeartbeats 2000000
set_option maxRecDepth 100000
theorem pages_at {c : Nat → Nat} {r rn rm : Nat} {w : World} {tp k : Nat} {Z : TSt} (h : TreeAt c r rn rm w tp Z k) (hlv : Z.live.length ≤ 100000) : Calls Tryz.prog 17 #[.pointer (some ⟨tp, 0, none⟩)] w fun e w' => e = .returned (.int .i64 ((Z.live.length : Int) - (Z.gone.length : Int) + (rootDirty Z.now : Int))) ∧ Fr C0 w w' := by
  obtain ⟨st, lm, km, nr, lr, gv, ov, sn, h⟩ := h
  have hrm := h.bk.room
  have hsm := h.hd.alive.small
  have hgl := h.bk.glen
  have hgl2 : Z.gone.length ≤ Z.live.length := sub_length h.bk.gn.1 h.bk.gn.2
  have HD := Lib.hid (fun (w_ : World) (hf : Fr C0 w w_) => dirty_root (h.now.fr0 hf) (show rootDirty Z.now ≤ 1000000 by omega))
  have c1 : w.cell? ⟨tp, 1, none⟩ = some nr := blk_cell h.blk 1 rfl
  have c7 : w.cell? ⟨tp, 7, none⟩ = some (.map (some lm)) := blk_cell h.blk 7 rfl
  have c8 : w.cell? ⟨tp, 8, none⟩ = some gv := blk_cell h.blk 8 rfl
  have HL := Lib.hid (fun (w_ : World) (hf : Fr C0 w w_) => Go.H.run_len_map (P := Tryz.prog) (ats := #[74]) (ty := 3) rfl Tryz.underlying74 (h.live.fr hf (fun k => k)))
  have hv : (vmap (ones Z.live)).length = Z.live.length := by rw [vmap, List.length_map]; exact marks_length _ _
  rw [hv] at HL
  have hone : nr = .nilIface ∨ ∃ tx y, nr = .iface tx y := by
    have hr := h.now
    cases hz : Z.now with
    | none => rw [hz] at hr; exact .inl hr
    | some p => rw [hz] at hr; exact .inr hr.1.iface
  obtain ⟨GA, gc, rfl, -⟩ := own_form h.gr
  have hw1 : IntKind.i64.wrap ((Z.live.length : Int) - (Z.gone.length : Int)) = (Z.live.length : Int) - (Z.gone.length : Int) := wraps_i64 _ (by omega) (by omega)
  have hw2 : IntKind.i64.wrap ((Z.live.length : Int) - (Z.gone.length : Int) + (rootDirty Z.now : Int)) = (Z.live.length : Int) - (Z.gone.length : Int) + (rootDirty Z.now : Int) := wraps_i64 _ (by omega) (by omega)
  generalize rootDirty Z.now = R at *
  generalize Z.live.length = Lv at *
  generalize Z.gone.length = Gn at *
  clear h hv
  rcases hone with rfl | ⟨tx, y, rfl⟩
  · go_enter Tryz.func17, Tryz.ntmps17
    go_wp2_with fail
    refine wp_region_L (Fr C0 w) [] (by kernel_rfl) ?_
    have hSw0 : (Fr C0 w) _ := (Fr.refl C0 w).drew
    refine tk 0 hSw0 ?_
    refine tk 1 hSw0 ?_
    refine tk 2 hSw0 ?_
    refine tk 3 hSw0 ?_ (hy := by intro w_ hS_; have b0 := hS_.cell0 c1; have b1 := hS_.cell0 c7; have b2 := hS_.cell0 c8; have hl := HL.out _ hS_; first | (go_simp; done) | (go_simp; with_reducible rfl))
    refine tk 4 hSw0 ?_ (hy := by intro w_ hS_; have b0 := hS_.cell0 c1; have b1 := hS_.cell0 c7; have b2 := hS_.cell0 c8; have hl := HL.out _ hS_; first | (go_simp; done) | (go_simp; with_reducible rfl))
    refine tk 5 hSw0 ?_
    refine tk 6 hSw0 ?_
    refine tk 7 hSw0 ?_
    refine tk 8 hSw0 ?_ (hy := by intro w_ hS_; have b0 := hS_.cell0 c1; have b1 := hS_.cell0 c7; have b2 := hS_.cell0 c8; have hl := HL.out _ hS_; first | (go_simp; done) | (go_simp; with_reducible rfl))
    refine tk 9 hSw0 ?_ (hy := by intro w_ hS_; have b0 := hS_.cell0 c1; have b1 := hS_.cell0 c7; have b2 := hS_.cell0 c8; have hl := HL.out _ hS_; first | (go_simp; done) | (go_simp; with_reducible rfl))
    refine tk 10 hSw0 ?_
    refine tk 11 hSw0 ?_
    refine tk 12 hSw0 ?_
    refine tk 13 hSw0 ?_
    refine tk 14 hSw0 ?_
    refine tk 15 hSw0 ?_ (hy := by intro w_ hS_; have b0 := hS_.cell0 c1; have b1 := hS_.cell0 c7; have b2 := hS_.cell0 c8; have hl := HL.out _ hS_; first | (go_simp; done) | (go_simp; with_reducible rfl))
    refine one_ 16 rfl (fun K hK => ?_)
    go_simp
    refine (HD.out _ (by assumption)).mono ?_
    rintro e w5 ⟨rfl, rfl⟩
    simp only []
    refine hK.out _ _ ?kS1 (fun hSw1 => ?kR1)
    case kS1 => assumption
    clear hK K
    try simp only [Act.put, List.setIfInBounds_toArray, List.set_cons_zero, List.set_cons_succ]
    refine tk 17 hSw1 ?_
    refine tk 18 hSw1 ?_
    refine wpAnyL_done (by kernel_rfl) ?_ _
    go_wp2
    go_ret
    exact ⟨rfl, by assumption⟩
  · go_enter Tryz.func17, Tryz.ntmps17
    go_wp2_with fail
    refine wp_region_L (Fr C0 w) [] (by kernel_rfl) ?_
    have hSw0 : (Fr C0 w) _ := (Fr.refl C0 w).drew
    refine tk 0 hSw0 ?_
    refine tk 1 hSw0 ?_
    refine tk 2 hSw0 ?_
    refine tk 3 hSw0 ?_ (hy := by intro w_ hS_; have b0 := hS_.cell0 c1; have b1 := hS_.cell0 c7; have b2 := hS_.cell0 c8; have hl := HL.out _ hS_; first | (go_simp; done) | (go_simp; with_reducible rfl))
    refine tk 4 hSw0 ?_ (hy := by intro w_ hS_; have b0 := hS_.cell0 c1; have b1 := hS_.cell0 c7; have b2 := hS_.cell0 c8; have hl := HL.out _ hS_; first | (go_simp; done) | (go_simp; with_reducible rfl))
    refine tk 5 hSw0 ?_
    refine tk 6 hSw0 ?_
    refine tk 7 hSw0 ?_
    refine tk 8 hSw0 ?_ (hy := by intro w_ hS_; have b0 := hS_.cell0 c1; have b1 := hS_.cell0 c7; have b2 := hS_.cell0 c8; have hl := HL.out _ hS_; first | (go_simp; done) | (go_simp; with_reducible rfl))
    refine tk 9 hSw0 ?_ (hy := by intro w_ hS_; have b0 := hS_.cell0 c1; have b1 := hS_.cell0 c7; have b2 := hS_.cell0 c8; have hl := HL.out _ hS_; first | (go_simp; done) | (go_simp; with_reducible rfl))
    refine tk 10 hSw0 ?_
    refine tk 11 hSw0 ?_
    refine tk 12 hSw0 ?_
    refine tk 13 hSw0 ?_
    refine tk 14 hSw0 ?_
    refine tk 15 hSw0 ?_ (hy := by intro w_ hS_; have b0 := hS_.cell0 c1; have b1 := hS_.cell0 c7; have b2 := hS_.cell0 c8; have hl := HL.out _ hS_; first | (go_simp; done) | (go_simp; with_reducible rfl))
    refine one_ 16 rfl (fun K hK => ?_)
    go_simp
    refine (HD.out _ (by assumption)).mono ?_
    rintro e w5 ⟨rfl, rfl⟩
    simp only []
    refine hK.out _ _ ?kS2 (fun hSw1 => ?kR2)
    case kS2 => assumption
    clear hK K
    try simp only [Act.put, List.setIfInBounds_toArray, List.set_cons_zero, List.set_cons_succ]
    refine tk 17 hSw1 ?_
    refine tk 18 hSw1 ?_
    refine wpAnyL_done (by kernel_rfl) ?_ _
    go_wp2
    go_ret
    exact ⟨rfl, by assumption⟩
theorem root_nil {o : Root} (h : RootSh o) (e : rootL o = []) : o = none := by
  cases o with
  | none => rfl
  | some p => exact absurd e (flat_ne (Nat.le_refl _) h)
variable {w0 w : World} {pn tp k : Nat} {La Ll : List KV}
theorem one_none (h : One w0 pn tp [] [] k w) : ∃ c Z, Stg (fun _ => 0) w0 1 2 3 c w tp Z 0 ∧ Z.S.pages = pn ∧ Z.S.state.length = 0 ∧ rootDirty Z.now = 0 ∧ rootD Z.now = 0 ∧ Z.live = [] ∧ Z.gone = [] := by
  obtain ⟨c, Z, a, b, d, i⟩ := h
  have h1 := held_le a.tr.bk a.tr.shl
  rw [d] at h1
  have e1 := root_nil a.tr.shape b
  have e2 := root_nil a.tr.shl d
  have hb1 := a.tr.bk.b1
  have hb2 := a.tr.bk.b2
  rw [e1] at hb1
  rw [e2] at hb2
  have hl : Z.live = [] := List.eq_nil_iff_forall_not_mem.2 fun x hx => by
    have := hb2 x
    rw [if_pos hx] at this
    simp [rcnt] at this
  have hg : Z.gone = [] := List.eq_nil_iff_forall_not_mem.2 fun x hx => by
    have := hb1 x
    rw [hl] at this
    have h2 := List.count_pos_iff.2 hx
    simp [rcnt] at this
    omega
  exact ⟨c, Z, a, i.pages, by simpa using h1, by rw [e1]; rfl, by rw [e1]; rfl, hl, hg⟩
theorem one_left0 (h : One w0 pn tp [] [] k w) : Calls Tryz.prog 9 #[.pointer (some ⟨tp, 0, none⟩)] w fun e w' => e = .returned (.int .i64 (pn : Int)) ∧ Fr C0 w w' := by
  obtain ⟨c, Z, a, e1, e2, e3, e4, e5, e6⟩ := one_none h
  have := left_at a.tr
  rw [e1, e2, e3] at this
  exact this
theorem one_pages0 (h : One w0 pn tp [] [] k w) : Calls Tryz.prog 17 #[.pointer (some ⟨tp, 0, none⟩)] w fun e w' => e = .returned (.int .i64 0) ∧ Fr C0 w w' := by
  obtain ⟨c, Z, a, e1, e2, e3, e4, e5, e6⟩ := one_none h
  have := pages_at a.tr (by rw [e5]; simp)
  rw [e3, e5, e6] at this
  exact this
theorem one_depth0 (h : One w0 pn tp [] [] k w) : Calls Tryz.prog 16 #[.pointer (some ⟨tp, 0, none⟩)] w fun e w' => e = .returned (.int .i64 0) ∧ w = w' := by
  obtain ⟨c, Z, a, e1, e2, e3, e4, e5, e6⟩ := one_none h
  have := depth_at a.tr
  rw [e4] at this
  exact this
end Go.Proofs.YtcmicdcikechkaaGreat
end
section
namespace Go.Proofs.YtcmicdcikechkaaGreat
open Go.RowKit Go.H
set_option maxHeartbeats 4000000
set_option maxRecDepth 100000
theorem empty_calls {w : World} {kv : Value} {ks : List Bs} (hk : KeysAt w kv ks) :
    Calls Tryz.prog 3 #[kv] w fun e w' => e = .returned (.bool true) ∧ Fr C0 w w' := by
  have HOP := Lib.hid (one_open (w := w) (n := 900) (by omega) (by omega))
  obtain ⟨KA, kc, rfl, hk1, hk2, hk3⟩ := hk
  have HK3 := Lib.hid hk3
  unfold maxLen at hk2
  clear hk3
  obtain ⟨n, hn50, hnl, hmin⟩ : ∃ n : Nat, n ≤ 40 ∧ n ≤ ks.length ∧ (if (40 : Int) < (ks.length : Int) then (40 : Int) else (ks.length : Int)) = (n : Int) := ⟨min ks.length 40, by omega, by omega, by split <;> omega⟩
  obtain ⟨tks, htks⟩ : ∃ tks, tks = (ks.take n).map (fun x => x.take 64) := ⟨_, rfl⟩
  have htl : tks.length = n := by rw [htks]; simp; omega
  have HTK : Hid (∀ (j : Nat) (h : j < tks.length), tks[j] = (ks[j]'(by omega)).take 64) := Lib.hid (by subst htks; intro j h; simp)
  clear htks
  go_enter Tryz.func3, Tryz.ntmps3
  go_wp2_with fail
  refine HOP.out.mono ?_
  rintro e w1 ⟨tp, rfl, H1⟩
  have HLF := Lib.hid (one_left0 H1.out)
  clear HOP
  go_wp2_with fail
  refine HLF.out.mono ?_
  rintro e w2 ⟨rfl, f2⟩
  have P2 : Hid (∃ L, One w 898 tp L [] 0 w2 ∧ ∀ z ∈ L, ∃ j, ∃ h : j < tks.length, j < 0 ∧ z.1 = tks[j]) := Lib.hid ⟨[], H1.out.fr0 f2, by simp⟩
  clear HLF f2 H1
  go_wp2_with fail
  go_loopw [7] (fun i wr => ∃ k : Nat, k ≤ n ∧ i = .int .i64 (k : Int) ∧ Hid (∃ L, One w 898 tp L [] k wr ∧ ∀ z ∈ L, ∃ j, ∃ h : j < tks.length, j < k ∧ z.1 = tks[j])) (fun i _ => n - (intOf i).toNat)
  case atStart => exact ⟨0, by omega, rfl, P2⟩
  case round =>
    obtain ⟨k, hk, rfl, HP⟩ := hrel
    clear P2
    by_cases hlt : k < n
    · obtain ⟨L, hP, hL⟩ := HP.out
      have HPP := Lib.hid hP
      have HLL := Lib.hid hL
      have hkl : k < ks.length := by omega
      obtain ⟨g, o, kvk, hKA, hcell, hb⟩ := HK3.out k hkl
      subst hKA
      have hcw := hP.fr.cell0 hcell
      obtain ⟨A1, n1, rfl, hn1, hn2⟩ := hb.form
      unfold maxLen at hn2
      have h1 : (k : Int) < (n : Int) := by omega
      have h2 : (k : Int) < (ks.length : Int) := by omega
      obtain ⟨m, hm64, hml, hmm⟩ : ∃ m : Nat, m ≤ 64 ∧ m ≤ ks[k].length ∧ (if (64 : Int) < (ks[k].length : Int) then (64 : Int) else (ks[k].length : Int)) = (m : Int) := ⟨min ks[k].length 64, by omega, by omega, by split <;> omega⟩
      have hmc : (m : Int) ≤ (n1 : Int) := by omega
      have HKB := Lib.hid (hb.take hml)
      have HKL : Hid ((ks[k].take m).length = m) := Lib.hid (by rw [List.length_take]; omega)
      have HT1 : Hid (tks[k]'(by omega) = ks[k].take m) := Lib.hid (by
        rw [HTK.out k (by omega)]
        have := hmm
        by_cases h : (64 : Int) < (ks[k].length : Int)
        · rw [if_pos h] at this
          rw [show m = 64 by omega]
        · rw [if_neg h] at this
          rw [List.take_of_length_le (by omega), List.take_of_length_le (by omega)])
      have HPUT := Lib.hid (fun (w_ : World) (hf : Fr C0 wr w_) => one_put (v := []) (HPP.out.fr0 hf) HKB.out sl_nil (by rw [HKL.out]; omega) (by simp) (by omega) (by omega))
      clear hb hcell hP HP hL
      go_wp2_with fail
      refine wp_region_L (Fr C0 wr) [12] (by kernel_rfl) ?_
      have hSw0 : (Fr C0 wr) _ := (Fr.refl C0 wr).drew
      refine tk 0 hSw0 ?_
      refine tk 1 hSw0 ?_
      refine tk 2 hSw0 ?_
      refine tk 3 hSw0 ?_
      refine tk 4 hSw0 ?_ (hy := by intro w_ hS_; have b0 := hS_.cell0 hcw; first | (go_simp; done) | (go_simp; with_reducible rfl))
      refine tk 5 hSw0 ?_
      refine tk 6 hSw0 ?_
      refine tk 7 hSw0 ?_
      refine tk 8 hSw0 ?_ (hy := by intro w_ hS_; have b0 := hS_.cell0 hcw; first | (go_simp; done) | (go_simp; with_reducible rfl))
      refine tk 9 hSw0 ?_ (hy := by intro w_ hS_; have b0 := hS_.cell0 hcw; first | (go_simp; done) | (go_simp; with_reducible rfl))
      refine tk 10 hSw0 ?_ (hy := by intro w_ hS_; have b0 := hS_.cell0 hcw; first | (go_simp; done) | (go_simp; with_reducible rfl))
      refine tk 11 hSw0 ?_
      refine late_ 12 rfl (fun K hK => ?_)
      go_simp
      refine (HPUT.out _ (by assumption)).mono ?_
      rintro e w3 ⟨i1, -, rfl, H3⟩
      simp only []
      refine hK.out _ _ ?_; clear hK K
      try simp only [Act.put, List.setIfInBounds_toArray, List.set_cons_zero, List.set_cons_succ]
      refine wpAnyL_done (by kernel_rfl) ?_ _
      have P3 : Hid (∃ L, One w 898 tp L [] (k + 1) w3 ∧ ∀ z ∈ L, ∃ j, ∃ h : j < tks.length, j < k + 1 ∧ z.1 = tks[j]) := Lib.hid ⟨_, H3.out, fun z hz => by
        have hold : z ∈ L → ∃ j, ∃ h : j < tks.length, j < k + 1 ∧ z.1 = tks[j] := fun hz => by
          obtain ⟨j, h, h1, h2⟩ := HLL.out z hz
          exact ⟨j, h, by omega, h2⟩
        split at hz
        · exact hold hz
        · rcases (mem_putL HPP.out.sorted).1 hz with rfl | ⟨hz, _⟩
          · exact ⟨k, by omega, by omega, HT1.out.symm⟩
          · exact hold hz⟩
      clear H3 HLL HPP HKB HPUT hcw hmm hmc
      go_wp2
      go_roundw
      case rel => exact ⟨k + 1, by omega, by go_num, P3⟩
      case measure => simp [intOf]; omega
    · obtain rfl : k = n := by omega
      obtain ⟨L, hP, hL⟩ := HP.out
      have HCM := Lib.hid (one_commit hP (by omega))
      have HLL := Lib.hid hL
      have hkk : ¬ (k : Int) < (k : Int) := by omega
      clear HP hP hL hlt hk
      go_wp2_with fail
      refine HCM.out.mono ?_
      rintro e w3 ⟨rfl, H3⟩
      have P3 : Hid (∃ L Ll, One w 898 tp L Ll 100 w3 ∧ ∀ z ∈ L, ∃ j, ∃ h : j < tks.length, 0 ≤ j ∧ z.1 = tks[j]) := Lib.hid ⟨L, L, H3.out.1.le (by omega), fun z hz => by
        obtain ⟨j, h, _, h2⟩ := HLL.out z hz
        exact ⟨j, h, Nat.zero_le _, h2⟩⟩
      clear HCM H3 HLL
      go_wp2_with fail
      go_loopw [8] (fun i wr => ∃ d : Nat, d ≤ k ∧ i = .int .i64 (d : Int) ∧ Hid (∃ L Ll, One w 898 tp L Ll 100 wr ∧ ∀ z ∈ L, ∃ j, ∃ h : j < tks.length, d ≤ j ∧ z.1 = tks[j])) (fun i _ => k - (intOf i).toNat)
      case atStart => exact ⟨0, by omega, rfl, P3⟩
      case round =>
        obtain ⟨d, hd, rfl, HP⟩ := hrel
        clear P3
        by_cases hlt : d < k
        · obtain ⟨L, Ll, hP, hL⟩ := HP.out
          have HPP := Lib.hid hP
          have HLL := Lib.hid hL
          have hkl : d < ks.length := by omega
          obtain ⟨g, o, kvk, hKA, hcell, hb⟩ := HK3.out d hkl
          subst hKA
          have hcw := hP.fr.cell0 hcell
          obtain ⟨A1, n1, rfl, hn1, hn2⟩ := hb.form
          unfold maxLen at hn2
          have h1 : (d : Int) < (k : Int) := by omega
          have h2 : (d : Int) < (ks.length : Int) := by omega
          obtain ⟨m, hm64, hml, hmm⟩ : ∃ m : Nat, m ≤ 64 ∧ m ≤ ks[d].length ∧ (if (64 : Int) < (ks[d].length : Int) then (64 : Int) else (ks[d].length : Int)) = (m : Int) := ⟨min ks[d].length 64, by omega, by omega, by split <;> omega⟩
          have hmc : (m : Int) ≤ (n1 : Int) := by omega
          have HKB := Lib.hid (hb.take hml)
          have HKL : Hid ((ks[d].take m).length = m) := Lib.hid (by rw [List.length_take]; omega)
          have HT1 : Hid (tks[d]'(by omega) = ks[d].take m) := Lib.hid (by
            rw [HTK.out d (by omega)]
            have := hmm
            by_cases h : (64 : Int) < (ks[d].length : Int)
            · rw [if_pos h] at this
              rw [show m = 64 by omega]
            · rw [if_neg h] at this
              rw [List.take_of_length_le (by omega), List.take_of_length_le (by omega)])
          have HOK := Lib.hid (fun z (hz : z ∈ L) => HPP.out.ok z hz)
          clear hb hcell hP HP hL
          go_wp2_with fail
          refine wp_region_L (Fr C0 wr) [] (by kernel_rfl) ?_
          have hSw0 : (Fr C0 wr) _ := (Fr.refl C0 wr).drew
          refine tk 0 hSw0 ?_
          refine tk 1 hSw0 ?_
          refine tk 2 hSw0 ?_
          refine tk 3 hSw0 ?_ (hy := by intro w_ hS_; have b0 := hS_.cell0 hcw; first | (go_simp; done) | (go_simp; with_reducible rfl))
          refine tk 4 hSw0 ?_
          refine tk 5 hSw0 ?_
          refine tk 6 hSw0 ?_
          refine tk 7 hSw0 ?_ (hy := by intro w_ hS_; have b0 := hS_.cell0 hcw; first | (go_simp; done) | (go_simp; with_reducible rfl))
          refine tk 8 hSw0 ?_ (hy := by intro w_ hS_; have b0 := hS_.cell0 hcw; first | (go_simp; done) | (go_simp; with_reducible rfl))
          refine tk 9 hSw0 ?_ (hy := by intro w_ hS_; have b0 := hS_.cell0 hcw; first | (go_simp; done) | (go_simp; with_reducible rfl))
          refine tk 10 hSw0 ?_
          refine tk 11 hSw0 ?_
          refine wpAnyL_done (by kernel_rfl) ?_ _
          have HPD := Lib.hid (HPP.out.fr0 (Fr.refl C0 wr).drew)
          clear HPP hcw hmm
          rcases Nat.eq_zero_or_pos m with hm0 | hm0
          · subst hm0
            have P4 : Hid (∃ L Ll, One w 898 tp L Ll 100 wr.drew ∧ ∀ z ∈ L, ∃ j, ∃ h : j < tks.length, d + 1 ≤ j ∧ z.1 = tks[j]) := Lib.hid ⟨L, Ll, HPD.out, fun z hz => by
              obtain ⟨j, h, h3, h4⟩ := HLL.out z hz
              refine ⟨j, h, ?_, h4⟩
              by_cases e : j = d
              · subst e
                have h5 : 1 ≤ z.1.length := (HOK.out z hz).1
                rw [h4, HT1.out] at h5
                simp at h5
              · omega⟩
            clear HPD HLL
            go_wp2
            go_roundw
            case rel => exact ⟨d + 1, by omega, by go_num, P4⟩
            case measure => simp [intOf]; omega
          · have hne : ks[d].take m ≠ [] := fun e => by have := HKL.out; rw [e] at this; simp at this; omega
            have hm0i : ((m : Int) == 0) = false := beq_false_of_ne (by omega)
            have hm0n : ¬ m = 0 := by omega
            have HD1 := Lib.hid (one_del HPD.out HKB.out hne (by rw [HKL.out]; omega) (by omega))
            have HKN := Lib.hid hne
            have HSO := Lib.hid HPD.out.sorted
            generalize hbb : (getL (ks[d].take m) L).isSome = bb at HD1
            clear hbb hne
            go_wp2_with fail
            refine HD1.out.mono ?_
            rintro e w5 ⟨rfl, H5⟩
            have HG := Lib.hid (one_get H5.out HKB.out HKN.out (by rw [HKL.out]; omega))
            rw [getL_del HSO.out] at HG
            have P5 : Hid (∃ L Ll, One w 898 tp L Ll 100 w5 ∧ ∀ z ∈ L, ∃ j, ∃ h : j < tks.length, d + 1 ≤ j ∧ z.1 = tks[j]) := Lib.hid ⟨_, Ll, H5.out, fun z hz => by
              obtain ⟨hz1, hz2⟩ := mem_del HSO.out hz
              obtain ⟨j, h, h3, h4⟩ := HLL.out z hz1
              refine ⟨j, h, ?_, h4⟩
              by_cases e : j = d
              · subst e
                exact absurd (h4.trans HT1.out) hz2
              · omega⟩
            clear HD1 H5 HPD HLL
            go_wp2_with fail
            refine HG.out.mono ?_
            rintro e w6 ⟨f6, (⟨hx, _⟩ | rfl)⟩
            · exact hx.elim
            have P6 : Hid (∃ L Ll, One w 898 tp L Ll 100 w6 ∧ ∀ z ∈ L, ∃ j, ∃ h : j < tks.length, d + 1 ≤ j ∧ z.1 = tks[j]) := Lib.hid (by
              obtain ⟨L, Ll, a, b⟩ := P5.out
              exact ⟨L, Ll, a.fr0 f6, b⟩)
            clear P5 HG f6
            go_wp2
            go_roundw
            case rel => exact ⟨d + 1, by omega, by go_num, P6⟩
            case measure => simp [intOf]; omega
        · obtain rfl : d = k := by omega
          have PE : Hid (∃ Ll, One w 898 tp [] Ll 100 wr) := Lib.hid (by
            obtain ⟨L, Ll, a, b⟩ := HP.out
            have : L = [] := List.eq_nil_iff_forall_not_mem.2 fun z hz => by
              obtain ⟨j, h, h1, _⟩ := b z hz
              omega
            rw [this] at a
            exact ⟨Ll, a⟩)
          obtain ⟨Ll, hE⟩ := PE.out
          have HTD := Lib.hid (by obtain ⟨cx, hcx⟩ := hE.cl; exact told_calls hcx)
          have HE := Lib.hid hE
          have hkk : ¬ (d : Int) < (d : Int) := by omega
          clear HP PE hE hlt hd
          go_wp2_with fail
          refine HTD.out.mono ?_
          rintro e w7 ⟨rfl, f7⟩
          have HCM := Lib.hid (one_commit (HE.out.fr0 f7) (by omega))
          clear f7 HTD
          go_wp2_with fail
          refine HCM.out.mono ?_
          rintro e w8 ⟨rfl, H8⟩
          have H9 := Lib.hid H8.out.1
          have HLN := Lib.hid (one_len H9.out)
          have HDP := Lib.hid (one_depth0 H9.out)
          have HPG := Lib.hid (one_pages0 H9.out)
          have HLF := Lib.hid (fun (w_ : World) (hf : Fr C0 w8 w_) => one_left0 (H9.out.fr0 hf))
          have HCH := Lib.hid (fun (w_ : World) (hf : Fr C0 w8 w_) => one_check (H9.out.fr0 hf))
          clear HCM H8 HE
          go_wp2_with fail
          refine HLN.out.mono ?_
          rintro e w9 ⟨rfl, rfl⟩
          go_wp2_with fail
          refine HDP.out.mono ?_
          rintro e w9 ⟨rfl, rfl⟩
          go_wp2_with fail
          refine HPG.out.mono ?_
          rintro e w9 ⟨rfl, f9⟩
          have F9 := Lib.hid f9
          clear f9
          go_wp2_with fail
          refine (HLF.out _ F9.out).mono ?_
          rintro e w10 ⟨rfl, f10⟩
          have F10 := Lib.hid (F9.out.trans0 f10)
          clear f10
          go_wp2_with fail
          refine (HCH.out _ F10.out).mono ?_
          rintro e w11 ⟨rfl, f11⟩
          have F11 := Lib.hid (F10.out.trans0 f11)
          clear f11
          go_wp2
          go_ret
          exact ⟨rfl, H9.out.fr.trans0 F11.out⟩
end Go.Proofs.YtcmicdcikechkaaGreat
end
section
namespace Go.Proofs.YtcmicdcikechkaaGreat
open Go.RowKit Go.H Go.ChangeShapes Go.WideShapes Go.ChangeAt Go.Deep
set_option maxRecDepth 100000 in
theorem empty_lifted (os : Os) (started : os.Started) (H : Type) (enc : TypeId × Value → H) :
    ReturnsInHanded {} Tryz.checked os 3 .any (Rows.treeEmptySpec.pre6 enc Tryz.prog Tryz.f3 Rows.treeEmptyRow.domain false) (Rows.treeEmptySpec.post enc Tryz.prog Tryz.f3 false true false false) := by
  refine returnsInHanded_of_change (C := Tryz.checked) own_none started (by kernel_rfl) Tryz.func3
    (ChangeSpec.witness6 (enc := enc) (C := Tryz.checked) false ⟨#[], #[.slice none 0 0], []⟩ 8 (by kernel_rfl) (by kernel_rfl) (by kernel_rfl) (by kernel_rfl)) ?_
  intro W base args ds gs before hval0 hW hcnd _
  have hval : ∀ (j : Nat) t v, (Tryz.f3).params[j]? = some t → args[j]? = some v → Value.okWide Tryz.prog W .any base t v := hval0
  have hW' := hW
  obtain ⟨p, q, hA0, hV, rfl, hfz, hnd⟩ := hW
  have hA : DataW.TrodAll enc Tryz.prog W 0 (fun _ => true) true (Tryz.f3).params.toList args.toList ds p := hA0
  rw [Tryz.params3] at hA hval
  obtain ⟨v0, vs0, d0, ds0, p0, q0, hargs, rfl, rfl, h0, r0⟩ := trodAll_cons hA
  obtain ⟨rfl, rfl, rfl⟩ := trodAll_nil r0
  obtain rfl : args = #[v0] := by cases args; simp_all
  obtain ⟨rfl, rfl⟩ := trodVars_none hV
  obtain ⟨ks, hk⟩ := open_keys Tryz.underlying22 Tryz.underlying30 Tryz.underlying5 cells23 cells5 (hval 0 22 v0 rfl rfl) h0
  refine (empty_calls hk).mono fun e W' ⟨he, hf⟩ => ?_
  subst he
  exact ⟨_, rfl, law_post laid_out (by decide +kernel) rfl rfl Tryz.underlying4 hW' rfl hf⟩
theorem empty_over : Rows.treeEmptyRow.holds Tryz.pinned (OpenSpec.ofChange Rows.treeEmptySpec) :=
  OpenClaim.holds_of_wide 3 Tryz.f3 rfl rfl rfl rfl rfl rfl rfl ⟨rfl, rfl, rfl, rfl, rfl⟩ rfl rfl rfl rfl rfl (by kernel_rfl) Tryz.func3 (by kernel_rfl)
    (of_decide_eq_true (by kernel_rfl)) (by unfold Func.isWrapper; first | (rw [if_pos (by decide +kernel)]; kernel_rfl) | (rw [if_neg (by decide +kernel)]; exact ⟨rfl, rfl⟩))
    (fun os started H enc _ => empty_lifted os started H enc)
theorem tree_empty : Rows.TreeEmptySaid := empty_over
end Go.Proofs.YtcmicdcikechkaaGreat
end
