/- TreeFull returns true for every input, and leaves what came in as it was. No condition. -/
import Derived.Test.YtcmicdcikechkaaFull37
import Derived.Deep.CutRange
import Derived.Deep.LoopGhost
import Derived.Deep.CutBlock
import Derived.Deep.DeepCutAuto
import Derived.Test.YtcmicdcikechkaaFull36
set_option linter.all false
section
namespace Go.Proofs.Ytcmicdcikechkaa
open Go.RowKit Go.H
set_option maxHeartbeats 2000000
set_option maxRecDepth 100000
theorem pairs_next {c c' : Nat → Nat} {r rn rm : Nat} {w w' : World} {v : Value} {L : List KV} (ho : Owners r rn rm) (h : PairsAt (Dt c) w v L) (hf : Fr (fun b => c b = r ∨ c b = rn ∨ c b = rm) w w') (ha : Ag w.heap.size c c') : PairsAt (Dt c') w' v L :=
  ((h.mono (F' := fun b => c b = 0 ∧ b < w.heap.size) (fun b hb hl => ⟨hb, hl⟩)).fr hf (fun b hb e => by rcases e with e | e | e; exact ho.r0 (e.symm.trans hb.1); exact ho.n0 (e.symm.trans hb.1); exact ho.m0 (e.symm.trans hb.1))).mono (fun b hb _ => (ha b hb.2).trans hb.1)
theorem pairs_move {c c' : Nat → Nat} {w w' : World} {v : Value} {L : List KV} (h : PairsAt (Dt c) w v L) (hf : Fr C0 w w') (ha : Ag w.heap.size c c') : PairsAt (Dt c') w' v L :=
  (h.mono (F' := Dt c') (fun b hb hl => (ha b hl).trans hb)).fr0 hf
structure FuA (c0 : Nat → Nat) (w0 : World) (r rn rm tp k : Nat) (w : World) (c : Nat → Nat) (Z : TSt) : Prop where
  st : Stg c0 w0 r rn rm c w tp Z 0
  num : Z.S.num ≤ k
  len : (rootL Z.now).length ≤ k
theorem FuA.fr0 {c0 : Nat → Nat} {w0 : World} {r rn rm tp k : Nat} {w w' : World} {c : Nat → Nat} {Z : TSt} (h : FuA c0 w0 r rn rm tp k w c Z) (hf : Fr C0 w w') : FuA c0 w0 r rn rm tp k w' c Z := ⟨h.st.fr0 hf, h.num, h.len⟩
structure FuB (c0 : Nat → Nat) (w0 : World) (r rn rm tp k : Nat) (v : Value) (w : World) (c : Nat → Nat) (Z : TSt) : Prop where
  a : FuA c0 w0 r rn rm tp k w c Z
  row : PairsAt (Dt c) w v (rootL Z.now)
theorem FuB.fr0 {c0 : Nat → Nat} {w0 : World} {r rn rm tp k : Nat} {v : Value} {w w' : World} {c : Nat → Nat} {Z : TSt} (h : FuB c0 w0 r rn rm tp k v w c Z) (hf : Fr C0 w w') : FuB c0 w0 r rn rm tp k v w' c Z := ⟨h.a.fr0 hf, h.row.fr0 hf⟩
theorem FuB.le {c0 : Nat → Nat} {w0 : World} {r rn rm tp k k' : Nat} {v : Value} {w : World} {c : Nat → Nat} {Z : TSt} (h : FuB c0 w0 r rn rm tp k v w c Z) (hk : k ≤ k') : FuB c0 w0 r rn rm tp k' v w c Z := ⟨⟨h.a.st, Nat.le_trans h.a.num hk, Nat.le_trans h.a.len hk⟩, h.row⟩
theorem fu_put {c0 : Nat → Nat} {w0 : World} {r rn rm tp k : Nat} {v : Value} {w : World} {c : Nat → Nat} {Z : TSt} {kv vv : Value} {x : KV} (ho : Owners r rn rm) (hn : ∀ b, c0 b ≠ r ∧ c0 b ≠ rn ∧ c0 b ≠ rm) (h : FuB c0 w0 r rn rm tp k v w c Z) (hk : k < 200) (h1 : BytesAt (Dt c) w kv x.1) (h2 : BytesAt (Dt c) w vv x.2) (hw : wrong x.1 x.2 = 0) :
    Calls Try.prog 8 #[.pointer (some ⟨tp, 0, none⟩), kv, vv] w fun e w' =>
      (e = .returned (.int .i64 21) ∧ Hid (Fr C0 w w' ∧ ¬ 2 * rootD Z.now + 1 ≤ (Z.S.pages - Z.S.state.length) - rootDirty Z.now)) ∨
      (e = .returned (.int .i64 0) ∧ Hid (∃ c' Z', FuA c0 w0 r rn rm tp (k + 1) w' c' Z' ∧ rootL Z'.now = putL x (rootL Z.now) ∧ PairsAt (Dt c') w' v (rootL Z.now) ∧ BytesAt (Dt c') w' kv x.1 ∧ BytesAt (Dt c') w' vv x.2)) := by
  refine (put_at ho h.a.st.tr h1 h2 hw (by have := h.a.len; omega)).mono ?_
  rintro e w' (⟨rfl, f, o', e1, e2, e3, e4⟩ | ⟨rfl, f, c', o', g', ag, t, e1⟩)
  · refine .inl ⟨rfl, Lib.hid ⟨f, ?_⟩⟩
    omega
  · have f' : Fr (fun b => c b = r ∨ c b = rn ∨ c b = rm) w w' := f.mono (fun b _ e => .inl e)
    refine .inr ⟨rfl, Lib.hid ⟨c', _, ⟨h.a.st.next hn f' ag t, by have := h.a.num; exact Nat.le_succ_of_le this, ?_⟩, e1, pairs_next ho h.row f' ag, data_next ho h1 f' ag, data_next ho h2 f' ag⟩⟩
    show (rootL o').length ≤ _
    rw [e1, putL_length h.a.st.tr.bk.sn]
    have := h.a.len
    split <;> omega
theorem fu_row {c0 : Nat → Nat} {w0 : World} {r rn rm tp k : Nat} {v : Value} {w w' : World} {c : Nat → Nat} {Z : TSt} {L : List KV} (h : FuA c0 w0 r rn rm tp k w c Z) (e : rootL Z.now = L) (hf : Fr C0 w w') (hr : PairsAt (fun b => Dt c b ∨ w.heap.size ≤ b) w' v L) : FuB c0 w0 r rn rm tp k v w' c Z :=
  ⟨h.fr0 hf, by rw [e]; exact hr.mono (fun b hb _ => hb.elim id (fun g => h.st.tr.cl b g))⟩
theorem fu_range {c0 : Nat → Nat} {w0 : World} {r rn rm tp k : Nat} {v : Value} {w : World} {c : Nat → Nat} {Z : TSt} (h : FuB c0 w0 r rn rm tp k v w c Z) (hk : k ≤ 200) :
    Calls Try.prog 9 #[.pointer (some ⟨tp, 0, none⟩), .slice none 0 0, .slice none 0 0, .int .i64 999] w fun e w' => ∃ A cp, e = .returned (.tuple #[.slice A (rootL Z.now).length cp, .int .i64 0]) ∧ Hid (∃ c', FuB c0 w0 r rn rm tp k v w' c' Z ∧ PairsAt (fun _ => True) w' (.slice A (rootL Z.now).length cp) (rootL Z.now)) := by
  obtain ⟨q, hq1, hq2, hq3⟩ := own_many h.a.st.tr.cl [r, rn, rm]
  refine (range_at (n := 999) hq2 (hq3 r (by simp)) (hq3 rn (by simp)) hq1 (by omega) h.a.st.tr sl_nil sl_nil (by simp) (by simp)).mono ?_
  rintro e w' ⟨f, v', c', rfl, ag, cl, o⟩
  have hl : (rangeL [] [] (rootL Z.now)).take 999 = rootL Z.now := by
    have := h.a.len
    rw [rangeL_all, List.take_of_length_le (by omega)]
  rw [hl] at o
  obtain ⟨A, cp, rfl, -⟩ := o.form
  exact ⟨A, cp, rfl, Lib.hid ⟨c', ⟨⟨h.a.st.move f ag cl, h.a.num, h.a.len⟩, pairs_move h.row f ag⟩, OutAt.pairs o (fun _ _ _ => trivial)⟩⟩
theorem fu_commit {c0 : Nat → Nat} {w0 : World} {r rn rm tp k : Nat} {v : Value} {w : World} {c : Nat → Nat} {Z : TSt} (ho : Owners r rn rm) (hn : ∀ b, c0 b ≠ r ∧ c0 b ≠ rn ∧ c0 b ≠ rm) (h : FuB c0 w0 r rn rm tp k v w c Z) (hk : k ≤ 200) :
    Calls Try.prog 17 #[.pointer (some ⟨tp, 0, none⟩)] w fun e w' => e = .returned (.int .i64 0) ∧ Hid (∃ c' Z', rootL Z'.now = rootL Z.now ∧ FuB c0 w0 r rn rm tp (k + 1) v w' c' Z') := by
  refine (commit_at ho h.a.st.tr (by have := h.a.num; omega)).mono ?_
  rintro e w' ⟨rfl, f, c', Z', ag, t, e1, -, -, -, -, e2, -⟩
  exact ⟨rfl, Lib.hid ⟨c', Z', e1, ⟨h.a.st.next hn f ag t, by have := h.a.num; omega, by rw [e1]; have := h.a.len; omega⟩, by rw [e1]; exact pairs_next ho h.row f ag⟩⟩
theorem full_calls {w : World} {kv cv : Value} {ks : List Bs} {val : Bs} (hk : KeysAt w kv ks) (hc : BytesAt (fun _ => True) w cv val) :
    Calls Try.prog 4 #[kv, cv] w fun e w' => e = .returned (.bool true) ∧ Fr C0 w w' := by
  obtain ⟨c0, hc0⟩ : ∃ c0 : Nat → Nat, ∀ b, c0 b = 0 := ⟨fun _ => 0, fun _ => rfl⟩
  have HCL : Hid (Cl w c0) := Lib.hid fun b _ => hc0 b
  obtain ⟨r, rn, rm, ho, hn⟩ := owners_new HCL.out
  have HOP := Lib.hid (lopen_calls (c := c0) (n := 16) ho HCL.out (by omega) (by omega))
  obtain ⟨KA, kc, rfl, hk1, hk2, hk3⟩ := hk
  have HK3 := Lib.hid hk3
  have HCUT := Lib.hid hc
  obtain ⟨CA, cc, rfl, hc1, hc2⟩ := hc.form
  have HO := Lib.hid ho
  have HN := Lib.hid hn
  have HZ := Lib.hid hc0
  unfold maxLen at hk2 hc2
  clear hk3 hc ho hn hc0
  obtain ⟨n, hn64, hnl, hmin⟩ : ∃ n : Nat, n ≤ 1800 ∧ n ≤ val.length ∧ (if (1800 : Int) < (val.length : Int) then (1800 : Int) else (val.length : Int)) = (n : Int) := ⟨min val.length 1800, by omega, by omega, by split <;> omega⟩
  have hnc : (n : Int) ≤ (cc : Int) := by omega
  have hcci : (cc : Int) ≤ 9223372036854775807 := by omega
  have HV : Hid ((val.take n).length = n) := Lib.hid (by rw [List.length_take]; omega)
  go_enter Try.func4, Try.ntmps4
  go_wp2_with fail
  refine HOP.out.mono ?_
  rintro e w1 ⟨tp, rfl, f1, c1, ag1, t1⟩
  have P1 : Hid (∃ c Z, rootL Z.now = [] ∧ FuB c0 w r rn rm tp 0 (.slice none 0 0) w1 c Z) := Lib.hid ⟨c1, _, rfl, ⟨⟨f1, ag1, t1⟩, Nat.le_refl _, Nat.le_refl _⟩, ⟨[], Row.nil _ _ _, .nil⟩⟩
  clear f1 ag1 t1 HOP
  go_wp2_with fail
  go_loopw [7, 9] (fun nv i wr => ∃ k : Nat, k ≤ 60 ∧ i = .int .i64 (k : Int) ∧ ∃ A cp L, nv = .slice A L.length cp ∧ Hid (∃ c Z, rootL Z.now = L ∧ FuB c0 w r rn rm tp (2 * k) (.slice A L.length cp) wr c Z)) (fun _ i _ => 60 - (intOf i).toNat)
  case atStart => exact ⟨0, by omega, rfl, none, 0, [], rfl, P1⟩
  case round =>
    obtain ⟨k, hk, rfl, A, cp, L, rfl, HP⟩ := hrel
    by_cases hlt : k < ks.length ∧ k < 60
    · obtain ⟨c, Z, hL, hp⟩ := HP.out
      subst hL
      have HPP := Lib.hid hp
      clear hp HP
      obtain ⟨hlt1, hlt2⟩ := hlt
      obtain ⟨g, o, kvk, hKA, hcell, hb⟩ := HK3.out k hlt1
      have hcw := HPP.out.a.st.fr.cell0 hcell
      have HKB := Lib.hid (came_in hb HZ.out HPP.out.a.st.fr HPP.out.a.st.ag)
      have HVB := Lib.hid ((came_in (c := c) HCUT.out HZ.out HPP.out.a.st.fr HPP.out.a.st.ag).take hnl)
      obtain ⟨A1, n1, rfl, hn1, hn2⟩ := hb.form
      subst hKA
      have h1 : (k : Int) < (ks.length : Int) := by omega
      have h2 : (k : Int) < 60 := by omega
      clear hcell hb
      have hkl : ks[k].length ≤ 9223372036854775807 := by unfold maxLen at hn2; omega
      obtain ⟨m, hm64, hml, hmm⟩ : ∃ m : Nat, m ≤ 64 ∧ m ≤ ks[k].length ∧ (if (64 : Int) < (ks[k].length : Int) then (64 : Int) else (ks[k].length : Int)) = (m : Int) := ⟨min ks[k].length 64, by omega, by omega, by split <;> omega⟩
      have hmc : (m : Int) ≤ (n1 : Int) := by omega
      have HKT := Lib.hid (HKB.out.take hml)
      have HKL : Hid ((ks[k].take m).length = m) := Lib.hid (by rw [List.length_take]; omega)
      go_wp2_with fail
      refine wp_region_L (Fr C0 wr) [] (by kernel_rfl) ?_
      have hSw0 : (Fr C0 wr) _ := (Fr.refl C0 wr).drew
      refine tk 0 ⟨(some 36), (.move (.tmp 0)), 22, "law.go:287", #[], none⟩ hSw0 ?_
      refine tk 1 ⟨(some 37), (.move (.tmp 9)), 3, "law.go:287", #[], none⟩ hSw0 ?_
      refine tk 2 ⟨(some 38), (.indexAddr 22 (.tmp 36) (.tmp 37)), 0, "law.go:287", #[⟨0, .data⟩, ⟨1, .data⟩], none⟩ hSw0 ?_
      refine tk 3 ⟨(some 39), (.load 23 (.tmp 38)), 23, "law.go:287", #[⟨2, .data⟩], none⟩ hSw0 ?_ (by intro w_ hS_; have b0 := hS_.cell0 hcw; first | (go_simp; done) | (go_simp; with_reducible rfl))
      refine tk 4 ⟨(some 40), (.move (.tmp 0)), 22, "law.go:287", #[], none⟩ hSw0 ?_
      refine tk 5 ⟨(some 41), (.move (.tmp 9)), 3, "law.go:287", #[], none⟩ hSw0 ?_
      refine tk 6 ⟨(some 42), (.indexAddr 22 (.tmp 40) (.tmp 41)), 0, "law.go:287", #[⟨4, .data⟩, ⟨5, .data⟩], none⟩ hSw0 ?_
      refine tk 7 ⟨(some 43), (.load 23 (.tmp 42)), 23, "law.go:287", #[⟨6, .data⟩], none⟩ hSw0 ?_ (by intro w_ hS_; have b0 := hS_.cell0 hcw; first | (go_simp; done) | (go_simp; with_reducible rfl))
      refine tk 8 ⟨(some 44), (.call ⟨(.builtin .len), #[(.tmp 43)], #[23]⟩), 3, "law.go:287", #[⟨7, .data⟩], none⟩ hSw0 ?_ (by intro w_ hS_; have b0 := hS_.cell0 hcw; first | (go_simp; done) | (go_simp; with_reducible rfl))
      refine tk 9 ⟨(some 45), (.call ⟨(.builtin .min), #[(.tmp 44), (.const (.int .i64 64))], #[3, 3]⟩), 3, "law.go:287", #[⟨8, .data⟩], none⟩ hSw0 ?_ (by intro w_ hS_; have b0 := hS_.cell0 hcw; first | (go_simp; done) | (go_simp; with_reducible rfl))
      refine tk 10 ⟨(some 46), (.slice 23 (.tmp 39) none (some (.tmp 45)) none), 23, "law.go:287", #[⟨3, .data⟩, ⟨9, .data⟩], none⟩ hSw0 ?_
      refine tk 11 ⟨(some 10), (.assign (.tmp 46)), 23, "law.go:287", #[⟨10, .data⟩, ⟨0, .phase⟩, ⟨1, .phase⟩, ⟨2, .phase⟩, ⟨3, .phase⟩, ⟨4, .phase⟩, ⟨5, .phase⟩, ⟨6, .phase⟩, ⟨7, .phase⟩, ⟨8, .phase⟩, ⟨9, .phase⟩, ⟨10, .phase⟩], none⟩ hSw0 ?_
      refine wpAnyL_done (by kernel_rfl) ?_ _
      have HPD := Lib.hid (HPP.out.fr0 (Fr.refl C0 wr).drew)
      have HKD := Lib.hid (HKT.out.fr0 (Fr.refl C0 wr).drew)
      have HVD := Lib.hid (HVB.out.fr0 (Fr.refl C0 wr).drew)
      clear HKB HPP HKT HVB hcw
      rcases Nat.eq_zero_or_pos m with hm0 | hm0
      · subst hm0
        clear HKD HVD HKL hmm
        go_wp2
        go_roundw
        case rel => exact ⟨k + 1, by omega, by go_num, A, cp, _, rfl, Lib.hid ⟨c, Z, rfl, HPD.out.le (by omega)⟩⟩
        case measure => simp [intOf]; omega
      · have hm0i : ((m : Int) == 0) = false := beq_false_of_ne (by omega)
        have hm0n : ¬ m = 0 := by omega
        have hwr : wrong (ks[k].take m) (val.take n) = 0 := by
          unfold wrong
          rw [if_neg (fun e => by have := HKL.out; rw [e] at this; simp at this; omega), HKL.out, HV.out, if_neg (by omega)]
        have HLF := Lib.hid (left_at HPD.out.a.st.tr)
        have HDP := Lib.hid (fun (w_ : World) (hf : Fr C0 wr.drew w_) => depth_at (HPD.out.fr0 hf).a.st.tr)
        have HPUT := Lib.hid (fun (w_ : World) (hf : Fr C0 wr.drew w_) => fu_put (x := (ks[k].take m, val.take n)) HO.out HN.out (HPD.out.fr0 hf) (by omega) (HKD.out.fr0 hf) (HVD.out.fr0 hf) hwr)
        have hD : rootD Z.now ≤ 200 := by
          have := rootD_count HPD.out.a.st.tr.shape
          have := HPD.out.a.len
          omega
        obtain ⟨Lf, hLf⟩ : ∃ Lf, Lf = (Z.S.pages - Z.S.state.length) - rootDirty Z.now := ⟨_, rfl⟩
        rw [← hLf] at HLF HPUT
        obtain ⟨D, hDD⟩ : ∃ D, D = rootD Z.now := ⟨_, rfl⟩
        rw [← hDD] at HDP HPUT hD
        clear hLf hDD hwr hmm
        obtain ⟨b, hb⟩ : ∃ b, decide (2 * (D : Int) + 1 ≤ (Lf : Int)) = b := ⟨_, rfl⟩
        have HB := Lib.hid hb
        go_wp2_with fail
        refine HLF.out.mono ?_
        rintro e w2 ⟨rfl, f2⟩
        have F2 := Lib.hid f2
        clear f2
        go_wp2_with fail
        refine (HDP.out _ F2.out).mono ?_
        rintro e w3 ⟨rfl, rfl⟩
        go_wp2_with fail
        refine (HPUT.out _ F2.out).mono ?_
        rintro e w4 (⟨rfl, H4⟩ | ⟨rfl, H4⟩)
        · have hbf : b = false := by
            rw [← HB.out, decide_eq_false]
            have := H4.out.2
            omega
          subst hbf
          have HQ := Lib.hid (show FuB c0 w r rn rm tp (2 * k + 1) (.slice A (rootL Z.now).length cp) w4 c Z from ((HPD.out.fr0 F2.out).fr0 H4.out.1).le (by omega))
          clear HPUT HDP HLF HPD HKD HVD H4 F2 hb
          go_wp2_with fail
          refine (fu_range HQ.out (by omega)).mono ?_
          rintro e w6 ⟨RA, rc, rfl, H6⟩
          obtain ⟨c6, q6, p6⟩ := H6.out
          have Q6 := Lib.hid q6
          have HSM := Lib.hid (same_calls p6 q6.row)
          rw [decide_eq_true rfl] at HSM
          have HCH := Lib.hid (fun (w_ : World) (hf : Fr C0 w6 w_) => check_at HO.out (Q6.out.fr0 hf).a.st.tr)
          have HCM := Lib.hid (fun (w_ : World) (hf : Fr C0 w6 w_) => fu_commit HO.out HN.out (Q6.out.fr0 hf) (by omega))
          clear H6 q6 p6 HQ
          go_wp2_with fail
          refine HSM.out.mono ?_
          rintro e w7 ⟨rfl, f7⟩
          have F7 := Lib.hid f7
          clear f7
          go_wp2_with fail
          refine (HCH.out _ F7.out).mono ?_
          rintro e w8 ⟨rfl, f8⟩
          have F8 := Lib.hid (F7.out.trans0 f8)
          clear f8
          go_wp2_with fail
          refine (HCM.out _ F8.out).mono ?_
          rintro e w9 ⟨rfl, H9⟩
          obtain ⟨c9, Z9, e9, q9⟩ := H9.out
          have Q9 := Lib.hid (And.intro e9 q9)
          clear H9 e9 q9 HCH HCM HSM Q6 F7 F8
          go_wp2
          go_roundw
          case rel => exact ⟨k + 1, by omega, by go_num, _, _, _, rfl, Lib.hid ⟨c9, Z9, Q9.out.1, Q9.out.2.le (by omega)⟩⟩
          case measure => simp [intOf]; omega
        · obtain ⟨c4, Z4, ha4, hl4, hr4, hk4, hv4⟩ := H4.out
          have HPT := Lib.hid (lput_calls (x := (ks[k].take m, val.take n)) hr4 hk4 hv4 (by rw [HKL.out]; omega) (by rw [HV.out]; omega) (by have := HPD.out.a.len; omega))
          have HA4 := Lib.hid (And.intro ha4 hl4)
          clear HPUT HDP HLF HPD HKD HVD H4 F2 hb ha4 hl4 hr4 hk4 hv4
          go_wp2_with fail
          refine HPT.out.mono ?_
          rintro e w5 ⟨A5, c5, rfl, H5⟩
          have HQ := Lib.hid (fu_row HA4.out.1 HA4.out.2 H5.out.1 H5.out.2)
          clear HPT H5
          have he5 : (putL (ks[k].take m, val.take n) (rootL Z.now)).length = (rootL Z4.now).length := by rw [HA4.out.2]
          rw [he5] at HQ
          simp only [he5]
          clear he5 HA4
          go_wp2_with fail
          refine (fu_range HQ.out (by omega)).mono ?_
          rintro e w6 ⟨RA, rc, rfl, H6⟩
          obtain ⟨c6, q6, p6⟩ := H6.out
          have Q6 := Lib.hid q6
          have HSM := Lib.hid (same_calls p6 q6.row)
          rw [decide_eq_true rfl] at HSM
          have HCH := Lib.hid (fun (w_ : World) (hf : Fr C0 w6 w_) => check_at HO.out (Q6.out.fr0 hf).a.st.tr)
          have HCM := Lib.hid (fun (w_ : World) (hf : Fr C0 w6 w_) => fu_commit HO.out HN.out (Q6.out.fr0 hf) (by omega))
          clear H6 q6 p6 HQ
          go_wp2_with fail
          refine HSM.out.mono ?_
          rintro e w7 ⟨rfl, f7⟩
          have F7 := Lib.hid f7
          clear f7
          go_wp2_with fail
          refine (HCH.out _ F7.out).mono ?_
          rintro e w8 ⟨rfl, f8⟩
          have F8 := Lib.hid (F7.out.trans0 f8)
          clear f8
          go_wp2_with fail
          refine (HCM.out _ F8.out).mono ?_
          rintro e w9 ⟨rfl, H9⟩
          obtain ⟨c9, Z9, e9, q9⟩ := H9.out
          have Q9 := Lib.hid (And.intro e9 q9)
          clear H9 e9 q9 HCH HCM HSM Q6 F7 F8
          go_wp2
          go_roundw
          case rel => exact ⟨k + 1, by omega, by go_num, _, _, _, rfl, Lib.hid ⟨c9, Z9, Q9.out.1, Q9.out.2.le (by omega)⟩⟩
          case measure => simp [intOf]; omega
    · have hk60 : ¬ (k : Int) < (ks.length : Int) ∨ (k : Int) < (ks.length : Int) ∧ ¬ (k : Int) < 60 := by omega
      obtain ⟨c, Z, hL, hp⟩ := HP.out
      have HPP := Lib.hid hp
      clear hlt hp HP hL
      rcases hk60 with h1 | ⟨h1, h2⟩
      all_goals
        go_wp2_with fail
        refine (told_calls HPP.out.a.st.tr.cl).mono ?_
        rintro e w' ⟨rfl, f⟩
        have F := Lib.hid f
        clear f
        go_wp2
        go_ret
        exact ⟨rfl, HPP.out.a.st.fr.trans0 F.out⟩
end Go.Proofs.Ytcmicdcikechkaa
end
section
namespace Go.Proofs.Ytcmicdcikechkaa
open Go.RowKit Go.H Go.ChangeShapes Go.WideShapes Go.ChangeAt Go.Deep
set_option maxRecDepth 100000 in
theorem full_lifted (os : Os) (started : os.Started) (H : Type) (enc : TypeId × Value → H) :
    ReturnsInHanded {} Try.checked os 4 .any (Rows.treeFullSpec.pre6 enc Try.prog Try.f4 Rows.treeFullRow.domain false) (Rows.treeFullSpec.post enc Try.prog Try.f4 false true false false) := by
  refine returnsInHanded_of_change (C := Try.checked) own_none started (by kernel_rfl) Try.func4
    (ChangeSpec.witness6 (enc := enc) (C := Try.checked) false ⟨#[], #[.slice none 0 0, .slice none 0 0], []⟩ 8 (by kernel_rfl) (by kernel_rfl) (by kernel_rfl) (by kernel_rfl)) ?_
  intro W base args ds gs before hval0 hW hcnd _
  have hval : ∀ (j : Nat) t v, (Try.f4).params[j]? = some t → args[j]? = some v → Value.okWide Try.prog W .any base t v := hval0
  have hW' := hW
  obtain ⟨p, q, hA0, hV, rfl, hfz, hnd⟩ := hW
  have hA : DataW.TrodAll enc Try.prog W 0 (fun _ => true) true (Try.f4).params.toList args.toList ds p := hA0
  rw [Try.params4] at hA hval
  obtain ⟨v0, vs0, d0, ds0, p0, q0, hargs, rfl, rfl, h0, r0⟩ := trodAll_cons hA
  obtain ⟨v1, vs1, d1, ds1, p1, q1, rfl, rfl, rfl, h1, r1⟩ := trodAll_cons r0
  obtain ⟨rfl, rfl, rfl⟩ := trodAll_nil r1
  obtain rfl : args = #[v0, v1] := by cases args; simp_all
  obtain ⟨rfl, rfl⟩ := trodVars_none hV
  obtain ⟨ks, hk⟩ := open_keys Try.underlying22 Try.underlying23 Try.underlying5 cells23 cells5 (hval 0 22 v0 rfl rfl) h0
  obtain ⟨cut, hc⟩ := open_bytes Try.underlying23 Try.underlying5 cells5 (hval 1 23 v1 rfl rfl) h1
  refine (full_calls hk hc).mono fun e W' ⟨he, hf⟩ => ?_
  subst he
  exact ⟨_, rfl, law_post laid_out (by decide +kernel) rfl rfl Try.underlying4 hW' rfl hf⟩
theorem full_over : Rows.treeFullRow.holds Try.pinned (OpenSpec.ofChange Rows.treeFullSpec) :=
  OpenClaim.holds_of_wide 4 Try.f4 rfl rfl rfl rfl rfl rfl rfl ⟨rfl, rfl, rfl, rfl, rfl⟩ rfl rfl rfl rfl rfl (by kernel_rfl) Try.func4 (by kernel_rfl)
    (of_decide_eq_true (by kernel_rfl)) (by unfold Func.isWrapper; first | (rw [if_pos (by decide +kernel)]; kernel_rfl) | (rw [if_neg (by decide +kernel)]; exact ⟨rfl, rfl⟩))
    (fun os started H enc _ => full_lifted os started H enc)
theorem tree_full : Rows.TreeFullSaid := full_over
end Go.Proofs.Ytcmicdcikechkaa
end
