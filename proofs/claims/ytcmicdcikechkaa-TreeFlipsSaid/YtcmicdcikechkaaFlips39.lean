/- TreeFlips returns true for every input, and leaves what came in as it was. No condition. -/
import Derived.Test.YtcmicdcikechkaaFlips38
import Derived.Test.YtcmicdcikechkaaFlips33
set_option linter.all false
section
namespace Go.Proofs.Ytcmicdcikechkaa
open Go.RowKit Go.H
set_option maxHeartbeats 4000000
set_option maxRecDepth 100000
theorem flips_calls {w : World} {kv : Value} {ks : List Bs} {B b : Int} (hk : KeysAt w kv ks) (hB : -9223372036854775808 ≤ B ∧ B ≤ 9223372036854775807) (hb : -9223372036854775808 ≤ b ∧ b ≤ 9223372036854775807) :
    Calls Try.prog 5 #[kv, .int .i64 B, .int .i64 b] w fun e w' => e = .returned (.bool true) ∧ Fr C0 w w' := by
  have HOP := Lib.hid (at1_open (w0 := w) (w := w) (c := fun _ => 0) (r := 1) (n := 60) (by omega) (by omega) (by omega) (Fr.refl _ _) (fun _ _ => rfl) (fun _ _ => rfl))
  obtain ⟨KA, kc, rfl, hk1, hk2, hk3⟩ := hk
  have HK3 := Lib.hid hk3
  unfold maxLen at hk2
  clear hk3
  have hm1 : bits .and .i64 B 65535 = B % 65536 := and_mask B 16 65535 (by omega) (by decide)
  have hm2 : bits .and .i64 b 4095 = b % 4096 := and_mask b 12 4095 (by omega) (by decide)
  obtain ⟨b2, hb2, hb3⟩ : ∃ b2 : Nat, b2 < 4096 ∧ b % 4096 = (b2 : Int) := ⟨(b % 4096).toNat, by omega, by omega⟩
  obtain ⟨j, hj1, hj2, hj3⟩ : ∃ j : Nat, 2 ≤ j ∧ j < 60 ∧ 2 + B % 65536 % 58 = (j : Int) := ⟨(2 + B % 65536 % 58).toNat, by omega, by omega, by omega⟩
  have hw1 : IntKind.i64.wrap (j : Int) = (j : Int) := wraps_i64 _ (by omega) (by omega)
  have hw3 : IntKind.i64.wrap ((B % 65536).tmod 58) = (B % 65536).tmod 58 := wraps_i64 _ (by rw [Int.tmod_eq_emod_of_nonneg (by omega)]; omega) (by rw [Int.tmod_eq_emod_of_nonneg (by omega)]; omega)
  go_enter Try.func5, Try.ntmps5
  go_wp2_with fail
  refine HOP.out.mono ?_
  rintro e w1 ⟨tp, rfl, H1⟩
  have P1 : Hid (Flp w tp 0 (.slice none 0 0) [] w1) := Lib.hid (by
    obtain ⟨-, c, -, a⟩ := H1.out
    exact ⟨c, a, [], Row.nil _ _ _, .nil⟩)
  clear HOP H1
  go_wp2_with fail
  go_loopw [9, 10] (fun nv i wr => ∃ k : Nat, k ≤ 30 ∧ i = .int .i64 (k : Int) ∧ ∃ A cp L, nv = .slice A L.length cp ∧ Hid (Flp w tp k (.slice A L.length cp) L wr)) (fun _ i _ => 30 - (intOf i).toNat)
  case atStart => exact ⟨0, by omega, rfl, none, 0, [], rfl, P1⟩
  case round =>
    obtain ⟨k, hk, rfl, NA, nc, L, rfl, HP⟩ := hrel
    clear P1
    by_cases hlt : k < ks.length ∧ k < 30
    · obtain ⟨hlt1, hlt2⟩ := hlt
      have HPP := Lib.hid HP.out
      obtain ⟨g, o, kvk, hKA, hcell, hb⟩ := HK3.out k hlt1
      subst hKA
      have hcw := HP.out.fr.cell0 hcell
      obtain ⟨A1, n1, rfl, hn1, hn2⟩ := hb.form
      unfold maxLen at hn2
      have h1 : (k : Int) < (ks.length : Int) := by omega
      have h2 : (k : Int) < 30 := by omega
      obtain ⟨m, hm64, hml, hmm⟩ : ∃ m : Nat, m ≤ 64 ∧ m ≤ ks[k].length ∧ (if (64 : Int) < (ks[k].length : Int) then (64 : Int) else (ks[k].length : Int)) = (m : Int) := ⟨min ks[k].length 64, by omega, by omega, by split <;> omega⟩
      have hmc : (m : Int) ≤ (n1 : Int) := by omega
      have HKB := Lib.hid (hb.take hml)
      have HKL : Hid ((ks[k].take m).length = m) := Lib.hid (by rw [List.length_take]; omega)
      clear hb hcell HP
      go_wp2_with fail
      refine wp_region_L (Fr C0 wr) [] (by kernel_rfl) ?_
      have hSw0 : (Fr C0 wr) _ := (Fr.refl C0 wr).drew
      refine tk 0 hSw0 ?_
      refine tk 1 hSw0 ?_
      refine tk 2 hSw0 ?_
      refine tk 3 hSw0 ?_ (hy := by intro w_ hS_; have b0 := hS_.cell0 hcw; first | (go_simp; done) | (go_simp; with_reducible rfl))
      refine tk 4 hSw0 ?_
      refine tk 5 hSw0 ?_
      refine tk 6 hSw0 ?_
      refine tk 7 hSw0 ?_ (hy := by intro w_ hS_; have b0 := hS_.cell0 hcw; first | (go_simp; done) | (go_simp; with_reducible rfl))
      refine tk 8 hSw0 ?_ (hy := by intro w_ hS_; have b0 := hS_.cell0 hcw; first | (go_simp; done) | (go_simp; with_reducible rfl))
      refine tk 9 hSw0 ?_ (hy := by intro w_ hS_; have b0 := hS_.cell0 hcw; first | (go_simp; done) | (go_simp; with_reducible rfl))
      refine tk 10 hSw0 ?_
      refine tk 11 hSw0 ?_
      refine wpAnyL_done (by kernel_rfl) ?_ _
      have HPD := Lib.hid (HPP.out.fr0 (Fr.refl C0 wr).drew)
      clear HPP hcw hmm
      rcases Nat.eq_zero_or_pos m with hm0 | hm0
      · subst hm0
        go_wp2
        go_roundw
        case rel => exact ⟨k + 1, by omega, by go_num, NA, nc, L, rfl, Lib.hid (HPD.out.le (by omega))⟩
        case measure => simp [intOf]; omega
      · have hne : ks[k].take m ≠ [] := fun e => by have := HKL.out; rw [e] at this; simp at this; omega
        have hmi : (0 : Int) < (m : Int) := by omega
        have HPUT := Lib.hid (flp_put HPD.out HKB.out hne (by rw [HKL.out]; omega) (by omega))
        clear hne
        go_wp2_with fail
        refine HPUT.out.mono ?_
        rintro e w3 ⟨rfl, H3⟩
        obtain ⟨c3, a3, p3, k3⟩ := H3.out
        have HL3 : L.length ≤ 100000 := by have := a3.len; have h5 := HPD.out; obtain ⟨_, a5, _⟩ := h5; have := a5.len; omega
        have HLP := Lib.hid (lput_calls (x := (ks[k].take m, ks[k].take m)) p3 k3 k3 (by rw [HKL.out]; omega) (by rw [HKL.out]; omega) HL3)
        have A3 := Lib.hid a3
        clear H3 a3 p3 k3 HL3 HPUT HPD
        go_wp2_with fail
        refine HLP.out.mono ?_
        rintro e w4 ⟨A4, c4, rfl, H4⟩
        have P4 := Lib.hid (flp_row A3.out H4.out.1 H4.out.2)
        clear HLP H4 A3
        go_wp2
        go_roundw
        case rel => exact ⟨k + 1, by omega, by go_num, A4, c4, _, rfl, P4⟩
        case measure => simp [intOf]; omega
    · have hex : ¬ (k : Int) < (ks.length : Int) ∨ (k : Int) < (ks.length : Int) ∧ ¬ (k : Int) < 30 := by omega
      have HCM := Lib.hid (flp_commit HP.out hk)
      clear hlt HP hk
      rcases hex with h1 | ⟨h1, h2⟩
      · skip
        go_wp2_with fail
        refine HCM.out.mono ?_
        rintro e w3 ⟨rfl, H3⟩
        have HFL := Lib.hid (flo_flip (j := j) (bit := b2) H3.out hj1 hj2 (by omega))
        clear HCM H3
        go_wp2_with fail
        refine HFL.out.mono ?_
        rintro e w4 ⟨rfl, H4⟩
        have HOQ := Lib.hid (flo_open H4.out)
        clear HFL H4 hm1 hm2 hb3 hj3 hw1 hw3
        go_wp2_with fail
        refine HOQ.out.mono ?_
        rintro e w5 (⟨rfl, f5⟩ | ⟨tp2, rfl, H5⟩)
        · have F5 := Lib.hid f5
          have HTD : Hid (Calls Try.prog 12 #[] w5 fun e w' => e = .returned (.bool true) ∧ Fr C0 w5 w') := Lib.hid (told_calls (c := fun _ => 0) (fun _ _ => rfl))
          clear f5 HOQ
          go_wp2_with fail
          refine HTD.out.mono ?_
          rintro e w6 ⟨rfl, f6⟩
          have F6 := Lib.hid (F5.out.trans0 f6)
          clear f6
          go_wp2
          go_ret
          exact ⟨rfl, F6.out⟩
        · have HRG := Lib.hid (flt_range H5.out)
          clear HOQ H5
          go_wp2_with fail
          refine HRG.out.mono ?_
          rintro e w6 ⟨RA, rc, rfl, H6⟩
          have P6 := Lib.hid H6.out.1
          obtain ⟨c6, a6, p6⟩ := H6.out.1
          have HSM := Lib.hid (same_calls H6.out.2 p6)
          rw [decide_eq_true rfl] at HSM
          clear HRG H6 a6 p6
          go_wp2_with fail
          refine HSM.out.mono ?_
          rintro e w7 ⟨rfl, f7⟩
          have P7 := Lib.hid (P6.out.fr0 f7)
          clear f7 P6 HSM
          go_wp2_with fail
          go_loopw [16] (fun i wr => ∃ q : Nat, q ≤ L.length ∧ i = .int .i64 (q : Int) ∧ Hid (FlT w tp2 (.slice NA L.length nc) L wr)) (fun i _ => L.length - (intOf i).toNat)
          case atStart => exact ⟨0, by omega, rfl, P7⟩
          case round =>
            obtain ⟨q, hq, rfl, HQ⟩ := hrel
            clear P7
            by_cases hql : q < L.length
            · obtain ⟨c8, a8, p8⟩ := HQ.out
              obtain ⟨ga, oa, kva, vva, rfl, x0, x1, x2, x3, x4⟩ := p8.at_ q hql
              have HGT := Lib.hid (flt_get a8 hql x3)
              have X4 := Lib.hid x4
              have h3 : (q : Int) < (L.length : Int) := by omega
              have hw5 : IntKind.i64.wrap ((q : Int) + 1) = ((q + 1 : Nat) : Int) := by rw [wraps_i64 _ (by have := a8.len; omega) (by have := a8.len; omega)]; omega
              clear x3 x4 a8 p8
              go_wp2_with fail
              refine HGT.out.mono ?_
              rintro e w9 ⟨f9, v9, rfl, b9⟩
              have HB9 := Lib.hid b9
              have y2 := f9.cell0 x2
              have Q9 := Lib.hid (HQ.out.fr0 f9)
              obtain ⟨xx, yy, sa, sb, E1⟩ := str2 b9 (X4.out.fr0 f9)
              obtain ⟨VA, vn, rfl, hv1, hv2⟩ := b9.form
              obtain ⟨WA, wn, rfl, -⟩ := X4.out.form
              have e1 := E1.out
              rw [decide_eq_true rfl] at e1
              clear E1 b9 HGT X4 x0 x1 x2 f9 HQ
              go_wp2_with fail
              refine wp_region_L (Fr C0 w9) [] (by kernel_rfl) ?_
              have hSw0 : (Fr C0 w9) _ := (Fr.refl C0 w9).drew
              refine tk 0 hSw0 ?_
              refine tk 1 hSw0 ?_
              refine tk 2 hSw0 ?_
              refine tk 3 hSw0 ?_
              refine tk 4 hSw0 ?_
              refine tk 5 hSw0 ?_
              refine tk 6 hSw0 ?_
              refine tk 7 hSw0 ?_ (hy := by intro w_ hS_; have k1 := sa.out _ hS_; have k2 := sb.out _ hS_; first | (go_simp; done) | (go_simp; with_reducible rfl))
              refine tk 8 hSw0 ?_
              refine tk 9 hSw0 ?_
              refine tk 10 hSw0 ?_
              refine tk 11 hSw0 ?_
              refine tk 12 hSw0 ?_ (hy := by intro w_ hS_; have b0 := hS_.cell0 y2; first | (go_simp; done) | (go_simp; with_reducible rfl))
              refine tk 13 hSw0 ?_ (hy := by intro w_ hS_; have k1 := sa.out _ hS_; have k2 := sb.out _ hS_; first | (go_simp; done) | (go_simp; with_reducible rfl))
              refine tk 14 hSw0 ?_
              refine tk 15 hSw0 ?_
              refine tk 16 hSw0 ?_
              refine tk 17 hSw0 ?_
              refine tk 18 hSw0 ?_
              refine tk 19 hSw0 ?_
              refine tk 20 hSw0 ?_
              refine tks 21 rfl hSw0 ?_
              try simp only [Act.put, List.setIfInBounds_toArray, List.set_cons_zero, List.set_cons_succ]
              refine tks 22 rfl hSw0 ?_
              try simp only [Act.put, List.setIfInBounds_toArray, List.set_cons_zero, List.set_cons_succ]
              refine tk 23 hSw0 ?_
              refine tk 24 hSw0 ?_
              refine wpAnyL_done (by kernel_rfl) ?_ _
              have Q10 := Lib.hid (Q9.out.fr0 (Fr.refl C0 w9).drew)
              clear Q9 sa sb y2 e1
              go_wp2
              go_roundw
              case rel => exact ⟨q + 1, by omega, by go_num, Q10⟩
              case measure => simp [intOf]; omega
            · have h3 : ¬ (q : Int) < (L.length : Int) := by omega
              have HTD := Lib.hid (by obtain ⟨cx, hcx⟩ := HQ.out.cl; exact told_calls hcx)
              go_wp2_with fail
              refine HTD.out.mono ?_
              rintro e w6 ⟨rfl, f6⟩
              have F6 := Lib.hid (HQ.out.fr.trans0 f6)
              clear f6
              go_wp2
              go_ret
              exact ⟨rfl, F6.out⟩
      · skip
        go_wp2_with fail
        refine HCM.out.mono ?_
        rintro e w3 ⟨rfl, H3⟩
        have HFL := Lib.hid (flo_flip (j := j) (bit := b2) H3.out hj1 hj2 (by omega))
        clear HCM H3
        go_wp2_with fail
        refine HFL.out.mono ?_
        rintro e w4 ⟨rfl, H4⟩
        have HOQ := Lib.hid (flo_open H4.out)
        clear HFL H4 hm1 hm2 hb3 hj3 hw1 hw3
        go_wp2_with fail
        refine HOQ.out.mono ?_
        rintro e w5 (⟨rfl, f5⟩ | ⟨tp2, rfl, H5⟩)
        · have F5 := Lib.hid f5
          have HTD : Hid (Calls Try.prog 12 #[] w5 fun e w' => e = .returned (.bool true) ∧ Fr C0 w5 w') := Lib.hid (told_calls (c := fun _ => 0) (fun _ _ => rfl))
          clear f5 HOQ
          go_wp2_with fail
          refine HTD.out.mono ?_
          rintro e w6 ⟨rfl, f6⟩
          have F6 := Lib.hid (F5.out.trans0 f6)
          clear f6
          go_wp2
          go_ret
          exact ⟨rfl, F6.out⟩
        · have HRG := Lib.hid (flt_range H5.out)
          clear HOQ H5
          go_wp2_with fail
          refine HRG.out.mono ?_
          rintro e w6 ⟨RA, rc, rfl, H6⟩
          have P6 := Lib.hid H6.out.1
          obtain ⟨c6, a6, p6⟩ := H6.out.1
          have HSM := Lib.hid (same_calls H6.out.2 p6)
          rw [decide_eq_true rfl] at HSM
          clear HRG H6 a6 p6
          go_wp2_with fail
          refine HSM.out.mono ?_
          rintro e w7 ⟨rfl, f7⟩
          have P7 := Lib.hid (P6.out.fr0 f7)
          clear f7 P6 HSM
          go_wp2_with fail
          go_loopw [16] (fun i wr => ∃ q : Nat, q ≤ L.length ∧ i = .int .i64 (q : Int) ∧ Hid (FlT w tp2 (.slice NA L.length nc) L wr)) (fun i _ => L.length - (intOf i).toNat)
          case atStart => exact ⟨0, by omega, rfl, P7⟩
          case round =>
            obtain ⟨q, hq, rfl, HQ⟩ := hrel
            clear P7
            by_cases hql : q < L.length
            · obtain ⟨c8, a8, p8⟩ := HQ.out
              obtain ⟨ga, oa, kva, vva, rfl, x0, x1, x2, x3, x4⟩ := p8.at_ q hql
              have HGT := Lib.hid (flt_get a8 hql x3)
              have X4 := Lib.hid x4
              have h3 : (q : Int) < (L.length : Int) := by omega
              have hw5 : IntKind.i64.wrap ((q : Int) + 1) = ((q + 1 : Nat) : Int) := by rw [wraps_i64 _ (by have := a8.len; omega) (by have := a8.len; omega)]; omega
              clear x3 x4 a8 p8
              go_wp2_with fail
              refine HGT.out.mono ?_
              rintro e w9 ⟨f9, v9, rfl, b9⟩
              have HB9 := Lib.hid b9
              have y2 := f9.cell0 x2
              have Q9 := Lib.hid (HQ.out.fr0 f9)
              obtain ⟨xx, yy, sa, sb, E1⟩ := str2 b9 (X4.out.fr0 f9)
              obtain ⟨VA, vn, rfl, hv1, hv2⟩ := b9.form
              obtain ⟨WA, wn, rfl, -⟩ := X4.out.form
              have e1 := E1.out
              rw [decide_eq_true rfl] at e1
              clear E1 b9 HGT X4 x0 x1 x2 f9 HQ
              go_wp2_with fail
              refine wp_region_L (Fr C0 w9) [] (by kernel_rfl) ?_
              have hSw0 : (Fr C0 w9) _ := (Fr.refl C0 w9).drew
              refine tk 0 hSw0 ?_
              refine tk 1 hSw0 ?_
              refine tk 2 hSw0 ?_
              refine tk 3 hSw0 ?_
              refine tk 4 hSw0 ?_
              refine tk 5 hSw0 ?_
              refine tk 6 hSw0 ?_
              refine tk 7 hSw0 ?_ (hy := by intro w_ hS_; have k1 := sa.out _ hS_; have k2 := sb.out _ hS_; first | (go_simp; done) | (go_simp; with_reducible rfl))
              refine tk 8 hSw0 ?_
              refine tk 9 hSw0 ?_
              refine tk 10 hSw0 ?_
              refine tk 11 hSw0 ?_
              refine tk 12 hSw0 ?_ (hy := by intro w_ hS_; have b0 := hS_.cell0 y2; first | (go_simp; done) | (go_simp; with_reducible rfl))
              refine tk 13 hSw0 ?_ (hy := by intro w_ hS_; have k1 := sa.out _ hS_; have k2 := sb.out _ hS_; first | (go_simp; done) | (go_simp; with_reducible rfl))
              refine tk 14 hSw0 ?_
              refine tk 15 hSw0 ?_
              refine tk 16 hSw0 ?_
              refine tk 17 hSw0 ?_
              refine tk 18 hSw0 ?_
              refine tk 19 hSw0 ?_
              refine tk 20 hSw0 ?_
              refine tks 21 rfl hSw0 ?_
              try simp only [Act.put, List.setIfInBounds_toArray, List.set_cons_zero, List.set_cons_succ]
              refine tks 22 rfl hSw0 ?_
              try simp only [Act.put, List.setIfInBounds_toArray, List.set_cons_zero, List.set_cons_succ]
              refine tk 23 hSw0 ?_
              refine tk 24 hSw0 ?_
              refine wpAnyL_done (by kernel_rfl) ?_ _
              have Q10 := Lib.hid (Q9.out.fr0 (Fr.refl C0 w9).drew)
              clear Q9 sa sb y2 e1
              go_wp2
              go_roundw
              case rel => exact ⟨q + 1, by omega, by go_num, Q10⟩
              case measure => simp [intOf]; omega
            · have h3 : ¬ (q : Int) < (L.length : Int) := by omega
              have HTD := Lib.hid (by obtain ⟨cx, hcx⟩ := HQ.out.cl; exact told_calls hcx)
              go_wp2_with fail
              refine HTD.out.mono ?_
              rintro e w6 ⟨rfl, f6⟩
              have F6 := Lib.hid (HQ.out.fr.trans0 f6)
              clear f6
              go_wp2
              go_ret
              exact ⟨rfl, F6.out⟩
end Go.Proofs.Ytcmicdcikechkaa
end
section
namespace Go.Proofs.Ytcmicdcikechkaa
open Go.RowKit Go.H Go.ChangeShapes Go.WideShapes Go.ChangeAt Go.Deep
set_option maxRecDepth 100000 in
theorem flips_lifted (os : Os) (started : os.Started) (H : Type) (enc : TypeId × Value → H) :
    ReturnsInHanded {} Try.checked os 5 .any (Rows.treeFlipsSpec.pre6 enc Try.prog Try.f5 Rows.treeFlipsRow.domain false) (Rows.treeFlipsSpec.post enc Try.prog Try.f5 false true false false) := by
  refine returnsInHanded_of_change (C := Try.checked) own_none started (by kernel_rfl) Try.func5
    (ChangeSpec.witness6 (enc := enc) (C := Try.checked) false ⟨#[], #[.slice none 0 0, .int .i64 0, .int .i64 0], []⟩ 8 (by kernel_rfl) (by kernel_rfl) (by kernel_rfl) (by kernel_rfl)) ?_
  intro W base args ds gs before hval0 hW hcnd _
  have hval : ∀ (j : Nat) t v, (Try.f5).params[j]? = some t → args[j]? = some v → Value.okWide Try.prog W .any base t v := hval0
  have hW' := hW
  obtain ⟨p, q, hA0, hV, rfl, hfz, hnd⟩ := hW
  have hA : DataW.TrodAll enc Try.prog W 0 (fun _ => true) true (Try.f5).params.toList args.toList ds p := hA0
  rw [Try.params5] at hA hval
  obtain ⟨v0, vs0, d0, ds0, p0, q0, hargs, rfl, rfl, h0, r0⟩ := trodAll_cons hA
  obtain ⟨v1, vs1, d1, ds1, p1, q1, rfl, rfl, rfl, h1, r1⟩ := trodAll_cons r0
  obtain ⟨v2, vs2, d2, ds2, p2, q2, rfl, rfl, rfl, h2, r2⟩ := trodAll_cons r1
  obtain ⟨rfl, rfl, rfl⟩ := trodAll_nil r2
  obtain rfl : args = #[v0, v1, v2] := by cases args; simp_all
  obtain ⟨rfl, rfl⟩ := trodVars_none hV
  obtain ⟨ks, hk⟩ := open_keys Try.underlying22 Try.underlying23 Try.underlying5 cells23 cells5 (hval 0 22 v0 rfl rfl) h0
  obtain ⟨B, rfl, rfl, rfl, wB⟩ := open_int Try.underlying3 (hval 1 3 v1 rfl rfl) h1
  have hB : -9223372036854775808 ≤ B ∧ B ≤ 9223372036854775807 := by simpa [Lit.wf, IntKind.min, IntKind.max, IntKind.signed, IntKind.bits] using wB
  obtain ⟨m, rfl, rfl, rfl, wm⟩ := open_int Try.underlying3 (hval 2 3 v2 rfl rfl) h2
  have hm : -9223372036854775808 ≤ m ∧ m ≤ 9223372036854775807 := by simpa [Lit.wf, IntKind.min, IntKind.max, IntKind.signed, IntKind.bits] using wm
  refine (flips_calls hk hB hm).mono fun e W' ⟨he, hf⟩ => ?_
  subst he
  exact ⟨_, rfl, law_post laid_out (by decide +kernel) rfl rfl Try.underlying4 hW' rfl hf⟩
theorem flips_over : Rows.treeFlipsRow.holds Try.pinned (OpenSpec.ofChange Rows.treeFlipsSpec) :=
  OpenClaim.holds_of_wide 5 Try.f5 rfl rfl rfl rfl rfl rfl rfl ⟨rfl, rfl, rfl, rfl, rfl⟩ rfl rfl rfl rfl rfl (by kernel_rfl) Try.func5 (by kernel_rfl)
    (of_decide_eq_true (by kernel_rfl)) (by unfold Func.isWrapper; first | (rw [if_pos (by decide +kernel)]; kernel_rfl) | (rw [if_neg (by decide +kernel)]; exact ⟨rfl, rfl⟩))
    (fun os started H enc _ => flips_lifted os started H enc)
theorem tree_flips : Rows.TreeFlipsSaid := flips_over
end Go.Proofs.Ytcmicdcikechkaa
end
