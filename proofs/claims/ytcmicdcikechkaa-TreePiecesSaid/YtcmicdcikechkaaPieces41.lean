import Derived.Test.YtcmicdcikechkaaPieces40
import Derived.Deep.CutRange
import Derived.Deep.LoopGhost
import Derived.Deep.CutBlock
import Derived.Deep.DeepCutAuto
set_option linter.all false
section
namespace Go.Proofs.Ytcmicdcikechkaa
open Go.RowKit Go.H
set_option maxHeartbeats 2000000
set_option maxRecDepth 100000
structure PutsAt (c0 : Nat → Nat) (w0 : World) (r rn rm : Nat) (tp k : Nat) (w : World) (c : Nat → Nat) (Z : TSt) : Prop where
  st : Stg c0 w0 r rn rm c w tp Z 0
  pages : Z.S.pages = 698
  state : Z.S.state = []
  len : (rootL Z.now).length ≤ k
theorem pieces_put {c0 : Nat → Nat} {w0 : World} {r rn rm tp k : Nat} {w : World} {c : Nat → Nat} {Z : TSt} {kv vv : Value} {key val : Bs} (ho : Owners r rn rm) (hn : ∀ b, c0 b ≠ r ∧ c0 b ≠ rn ∧ c0 b ≠ rm) (h : PutsAt c0 w0 r rn rm tp k w c Z) (hk : k < 40) (h1 : BytesAt (Dt c) w kv key) (h2 : BytesAt (Dt c) w vv val) (hl1 : key.length ≤ 64) (hl2 : val.length ≤ 1800) :
    Calls Try.prog 8 #[.pointer (some ⟨tp, 0, none⟩), kv, vv] w fun e w' => ∃ i : Int, e = .returned (.int .i64 i) ∧ Hid (∃ c' Z', PutsAt c0 w0 r rn rm tp (k + 1) w' c' Z') := by
  by_cases hw : wrong key val = 0
  · refine (put_room (x := (key, val)) ho h.st.tr h1 h2 hw (by have := h.len; omega) (by rw [h.pages, h.state]; have := h.len; simp; omega)).mono ?_
    rintro e w' ⟨rfl, f, c', o', g', ag, t, hl⟩
    refine ⟨0, rfl, Lib.hid ⟨c', _, h.st.next hn f ag t, h.pages, h.state, ?_⟩⟩
    show (rootL o').length ≤ _
    rw [hl, putL_length h.st.tr.bk.sn]
    have := h.len
    split <;> omega
  · refine (wrong_at h.st.tr h1 h2 hw).mono ?_
    rintro e w' ⟨rfl, f⟩
    exact ⟨_, rfl, Lib.hid ⟨c, Z, h.st.fr0 f, h.pages, h.state, by have := h.len; omega⟩⟩
structure PcA (c0 : Nat → Nat) (w0 : World) (r rn rm tp : Nat) (Z : TSt) (qa : Nat) (allv : Value) (c : Nat → Nat) (w : World) : Prop where
  st : Stg c0 w0 r rn rm c w tp Z 0
  al : Out w0.heap.size c qa w allv (rootL Z.now)
  len : (rootL Z.now).length ≤ 40
theorem PcA.move {c0 : Nat → Nat} {w0 : World} {r rn rm tp : Nat} {Z : TSt} {qa : Nat} {allv : Value} {c c' : Nat → Nat} {w w' : World} (h : PcA c0 w0 r rn rm tp Z qa allv c w) (hf : Fr C0 w w') (ha : Ag w.heap.size c c') (hc : Cl w' c') : PcA c0 w0 r rn rm tp Z qa allv c' w' := ⟨h.st.move hf ha hc, (h.al.ag ha).fr0 hf, h.len⟩
theorem TreeAt.turn {C : Nat → Prop} {c c' : Nat → Nat} {r rn rm : Nat} {w w' : World} {tp : Nat} {Z : TSt} {k : Nat} (h : TreeAt c r rn rm w tp Z k) (hf : Fr C w w') (ha : Ag w.heap.size c c') (hc : Cl w' c') (hC : ∀ b, C b → b < w.heap.size ∧ c b ≠ 0 ∧ c b ≠ r ∧ c b ≠ rn ∧ c b ≠ rm) : TreeAt c' r rn rm w' tp Z k := by
  obtain ⟨st, lm, km, nr, lr, gv, ov, sn, t⟩ := h
  have e0 : ∀ b, C b → c' b ≠ 0 := fun b e => by rw [ha b (hC b e).1]; exact (hC b e).2.1
  have e1 : ∀ b, C b → c' b ≠ r := fun b e => by rw [ha b (hC b e).1]; exact (hC b e).2.2.1
  have e2 : ∀ b, C b → c' b ≠ rn := fun b e => by rw [ha b (hC b e).1]; exact (hC b e).2.2.2.1
  exact ⟨st, lm, km, nr, lr, gv, ov, sn, (t.hd.ag ha).fr hf e1 e0, hc, hf.blk t.blk (fun e => (hC _ e).2.2.1 t.hd.own), own_kept t.gr hf (fun b hb e => (hC b e).2.2.1 (t.go b hb)), fun b hb => (ha b (t.gr.lt b hb).2).trans (t.go b hb), own_kept t.orow hf (fun b hb e => (hC b e).2.2.2.2 (t.oo b hb)), fun b hb => (ha b (t.orow.lt b hb).2).trans (t.oo b hb), t.live.fr hf (fun e => (hC _ e).2.2.2.2 t.lmo), (ha _ t.live.lt).trans t.lmo, t.kept.fr hf (fun e => (hC _ e).2.2.2.2 t.kmo), (ha _ t.kept.lt).trans t.kmo, t.lk, (t.now.ag ha).fr hf e2 e0, (t.last.ag ha).fr hf e2 e0, t.bk⟩
theorem PcA.turn {c0 : Nat → Nat} {w0 : World} {r rn rm tp : Nat} {Z : TSt} {qa q : Nat} {allv v : Value} {c c' : Nat → Nat} {w w' : World} (h : PcA c0 w0 r rn rm tp Z qa allv c w) (hf : Fr (fun b => v.ownBlock = some b) w w') (hv : ∀ b, v.ownBlock = some b → c b = q ∧ w0.heap.size ≤ b ∧ b < w.heap.size) (hq : q ≠ 0 ∧ q ≠ r ∧ q ≠ rn ∧ q ≠ rm ∧ q ≠ qa) (ha : Ag w.heap.size c c') (hc : Cl w' c') : PcA c0 w0 r rn rm tp Z qa allv c' w' := by
  have hs := h.st.fr.size
  have hx : ∀ b, v.ownBlock = some b → c' b = q := fun b e => (ha b (hv b e).2.2).trans (hv b e).1
  exact ⟨⟨h.st.fr.trans hf (fun b hb e => by have := (hv b e).2; omega), fun b hb => (ha b (by omega)).trans (h.st.ag b hb), h.st.tr.turn hf ha hc fun b e => ⟨(hv b e).2.2, by rw [(hv b e).1]; exact ⟨hq.1, hq.2.1, hq.2.2.1, hq.2.2.2.1⟩⟩⟩, (h.al.ag ha).fr hf (fun b e k => hq.2.2.2.2 ((hx b e).symm.trans k)) (fun b e k => hq.1 ((hx b e).symm.trans k)), h.len⟩
theorem pcs_range {c0 : Nat → Nat} {w0 : World} {r rn rm tp n : Nat} {Z : TSt} {qa : Nat} {allv lov hiv : Value} {lo hi : Bs} {c : Nat → Nat} {w : World} (h : PcA c0 w0 r rn rm tp Z qa allv c w) (qs : List Nat) {L : List KV} (hL : (rangeL lo hi (rootL Z.now)).take n = L) (hn : n ≤ 4611686018427387904) (hlo : BytesAt (Dt c) w lov lo) (hhi : BytesAt (Dt c) w hiv hi) (hl1 : lo.length ≤ 64) (hl2 : hi.length ≤ 64) :
    Calls Try.prog 9 #[.pointer (some ⟨tp, 0, none⟩), lov, hiv, .int .i64 (n : Int)] w fun e w' => ∃ A cp, e = .returned (.tuple #[.slice A L.length cp, .int .i64 0]) ∧ Hid (Fr C0 w w' ∧ ∃ c' q, PcA c0 w0 r rn rm tp Z qa allv c' w' ∧ Ag w.heap.size c c' ∧ Out w0.heap.size c' q w' (.slice A L.length cp) L ∧ (q ≠ 0 ∧ q ≠ r ∧ q ≠ rn ∧ q ≠ rm ∧ q ≠ qa) ∧ ∀ a ∈ qs, q ≠ a) := by
  subst hL
  obtain ⟨q, hq1, hq2, hq3⟩ := own_many h.st.tr.cl (r :: rn :: rm :: qa :: qs)
  refine (range_at hq2 (hq3 r (by simp)) (hq3 rn (by simp)) hq1 hn h.st.tr hlo hhi hl1 hl2).mono ?_
  rintro e w' ⟨f, v', c', rfl, ag, cl, o⟩
  have hs := h.st.fr.size
  have o' := o.lower (B' := w0.heap.size) hs
  obtain ⟨A, cp, rfl, -⟩ := o'.form
  exact ⟨A, cp, rfl, Lib.hid ⟨f, c', q, h.move f ag cl, ag, o', ⟨hq2, hq3 r (by simp), hq3 rn (by simp), hq3 rm (by simp), hq3 qa (by simp)⟩, fun a ha => hq3 a (by simp [ha])⟩⟩
theorem pcs_add {c0 : Nat → Nat} {w0 : World} {r rn rm tp : Nat} {Z : TSt} {qa q : Nat} {allv v v5 : Value} {c3 : Nat → Nat} {w3 w5 : World} {Lo LL : List KV} {xs ys : List Value} (P3 : PcA c0 w0 r rn rm tp Z qa allv c3 w3) (ox : w3.ownsRow 0 36 3 v Lo.length xs) (px : PairCells (fun b => c3 b = 0 ∧ w0.heap.size ≤ b) w3 xs Lo) (hx : ∀ b, v.ownBlock = some b → c3 b = q ∧ w0.heap.size ≤ b) (py : PairCells (fun b => c3 b = 0 ∧ w0.heap.size ≤ b) w3 ys LL) (hq : q ≠ 0 ∧ q ≠ r ∧ q ≠ rn ∧ q ≠ rm ∧ q ≠ qa)
    (o5 : w5.ownsRow 0 36 3 v5 (Lo.length + LL.length) (xs ++ ys)) (f5 : Fr (fun b => v.ownBlock = some b) w3 w5) (k5 : ∀ b, v5.ownBlock = some b → v.ownBlock = some b ∨ w3.heap.size ≤ b) : ∃ c5, PcA c0 w0 r rn rm tp Z qa allv c5 w5 ∧ Out w0.heap.size c5 q w5 v5 (Lo ++ LL) ∧ Ag w3.heap.size c3 c5 := by
  have hs3 := P3.st.fr.size
  have hv : ∀ b, v.ownBlock = some b → c3 b = q ∧ w0.heap.size ≤ b ∧ b < w3.heap.size := fun b e => ⟨(hx b e).1, (hx b e).2, (ox.lt b e).2⟩
  have hag : Ag w3.heap.size c3 (setc c3 v5.ownBlock q) := setc_ag (fun b e => (hx b e).1) k5
  have hcl : Cl w5 (setc c3 v5.ownBlock q) := fun b hb => by
    have := f5.size
    unfold setc
    split
    · rename_i e; have := (o5.lt b e).2; omega
    · exact P3.st.tr.cl b (by omega)
  have hnd : ∀ b, ((c3 b = 0 ∧ w0.heap.size ≤ b) ∧ b < w3.heap.size) → ¬ v.ownBlock = some b := fun b h e => hq.1 (by rw [← (hx b e).1]; exact h.1.1)
  have hF : ∀ b, ((c3 b = 0 ∧ w0.heap.size ≤ b) ∧ b < w3.heap.size) → b < w5.heap.size → setc c3 v5.ownBlock q b = 0 ∧ w0.heap.size ≤ b := fun b h _ => ⟨(hag b h.2).trans h.1.1, h.1.2⟩
  refine ⟨_, P3.turn f5 hv hq hag hcl, ⟨xs ++ ys, by rw [List.length_append]; exact o5, PairCells.append (((py.mono (F' := fun b => (c3 b = 0 ∧ w0.heap.size ≤ b) ∧ b < w3.heap.size) (fun b h hl => ⟨h, hl⟩)).fr f5 hnd).mono hF) (((px.mono (F' := fun b => (c3 b = 0 ∧ w0.heap.size ≤ b) ∧ b < w3.heap.size) (fun b h hl => ⟨h, hl⟩)).fr f5 hnd).mono hF), fun b e => ⟨by simp [setc, e], ?_⟩⟩, hag⟩
  rcases k5 b e with h | h
  · exact (hx b h).2
  · omega
theorem and7 (n : Int) : bits .and .i64 n 7 = n % 8 := by
  have h7 : (BitVec.ofInt 64 7).toNat = 2 ^ 3 - 1 := by decide
  have key : (BitVec.ofInt 64 n &&& BitVec.ofInt 64 7).toNat = (n % ((2 ^ 64 : Nat) : Int)).toNat % 2 ^ 3 := by
    rw [BitVec.toNat_and, BitVec.toNat_ofInt, h7, Nat.and_two_pow_sub_one_eq_mod]
  show IntKind.i64.wrap ((BitVec.ofInt 64 n &&& BitVec.ofInt 64 7).toNat : Nat) = n % 8
  rw [key, IntKind.wrap_i64]
  omega
structure PcB (c0 : Nat → Nat) (w0 : World) (r rn rm tp : Nat) (Z : TSt) (qa qo : Nat) (allv : Value) (outv lov : Value) (Lo : List KV) (lo : Bs) (c : Nat → Nat) (w : World) : Prop where
  a : PcA c0 w0 r rn rm tp Z qa allv c w
  out : Out w0.heap.size c qo w outv Lo
  dl : BytesAt (Dt c) w lov lo
  ll : lo.length ≤ 64
  q : qo ≠ 0 ∧ qo ≠ r ∧ qo ≠ rn ∧ qo ≠ rm ∧ qo ≠ qa
  eq : Lo ++ rangeL lo [] (rootL Z.now) = rootL Z.now
theorem pieces_calls {w : World} {kv cv : Value} {ks : List Bs} {cut : Bs} {m : Int} (hk : KeysAt w kv ks) (hc : BytesAt (fun _ => True) w cv cut) (hm : -9223372036854775808 ≤ m ∧ m ≤ 9223372036854775807) :
    Calls Try.prog 3 #[kv, cv, .int .i64 m] w fun e w' => e = .returned (.bool true) ∧ Fr C0 w w' := by
  obtain ⟨c0, hc0⟩ : ∃ c0 : Nat → Nat, ∀ b, c0 b = 0 := ⟨fun _ => 0, fun _ => rfl⟩
  have HCL : Hid (Cl w c0) := Lib.hid fun b _ => hc0 b
  obtain ⟨r, rn, rm, ho, hn⟩ := owners_new HCL.out
  have HOP := Lib.hid (lopen_calls (c := c0) (n := 700) ho HCL.out (by omega) (by omega))
  obtain ⟨KA, kc, rfl, hk1, hk2, hk3⟩ := hk
  have HK3 := Lib.hid hk3
  have HCUT := Lib.hid hc
  obtain ⟨CA, cc, rfl, hc1, hc2⟩ := hc.form
  have HO := Lib.hid ho
  have HN := Lib.hid hn
  have HZ := Lib.hid hc0
  unfold maxLen at hk2 hc2
  clear hk3 hc ho hn hc0
  go_enter Try.func3, Try.ntmps3
  go_wp2_with fail
  refine HOP.out.mono ?_
  rintro e w1 ⟨tp, rfl, f1, c1, ag1, t1⟩
  have P1 : Hid (∃ c Z, PutsAt c0 w r rn rm tp 0 w1 c Z) := Lib.hid ⟨c1, _, ⟨f1, ag1, t1⟩, rfl, rfl, by show 0 ≤ 0; omega⟩
  clear f1 ag1 t1 HOP
  go_wp2_with fail
  go_loopw [9] (fun i wr => ∃ k : Nat, k ≤ 40 ∧ i = .int .i64 (k : Int) ∧ Hid (∃ c Z, PutsAt c0 w r rn rm tp k wr c Z)) (fun i _ => 40 - (intOf i).toNat)
  case atStart => exact ⟨0, by omega, rfl, P1⟩
  case round =>
    obtain ⟨k, hk, rfl, HP⟩ := hrel
    by_cases hlt : k < ks.length ∧ k < 40
    · obtain ⟨c, Z, hp⟩ := HP.out
      have HPP := Lib.hid hp
      clear hp HP
      obtain ⟨hlt1, hlt2⟩ := hlt
      obtain ⟨g, o, kvk, hKA, hcell, hb⟩ := HK3.out k hlt1
      have hcw := HPP.out.st.fr.cell0 hcell
      have HKB := Lib.hid (came_in hb HZ.out HPP.out.st.fr HPP.out.st.ag)
      obtain ⟨A1, n1, rfl, hn1, hn2⟩ := hb.form
      subst hKA
      have h1 : (k : Int) < (ks.length : Int) := by omega
      have h2 : (k : Int) < 40 := by omega
      clear hcell hb
      have hkl : ks[k].length ≤ 9223372036854775807 := by unfold maxLen at hn2; omega
      have hu : IntKind.u8.wrap (k : Int) = (k : Int) := by rw [IntKind.wrap_u8]; omega
      obtain ⟨n, hn64, hnl, hmin⟩ : ∃ n : Nat, n ≤ 64 ∧ n ≤ ks[k].length ∧ (if (64 : Int) < (ks[k].length : Int) then (64 : Int) else (ks[k].length : Int)) = (n : Int) := ⟨min ks[k].length 64, by omega, by omega, by split <;> omega⟩
      have hnc : (n : Int) ≤ (n1 : Int) := by omega
      go_wp2_with fail
      refine wp_region_L (Fr C0 wr) [15] (by kernel_rfl) ?_
      have hSw0 : (Fr C0 wr) _ := (Fr.refl C0 wr).drew
      refine wpAnyL_take 0 (oi := ⟨(some 36), (.move (.tmp 8)), 25, "more.go:47", #[], none⟩) (v := ?v_1) rfl (by kernel_rfl) (fun _ _ _ h => h) hSw0 (yieldsIf_of rfl ?hy_1) ?hrest_1
      case hy_1 => (intro w_ hS_; (first | (go_simp; done) | (go_simp; with_reducible rfl)))
      try simp only [Act.put, List.setIfInBounds_toArray, List.set_cons_zero, List.set_cons_succ]
      refine wpAnyL_take 1 (oi := ⟨(some 37), (.move (.tmp 0)), 22, "more.go:47", #[], none⟩) (v := ?v_2) rfl (by kernel_rfl) (fun _ _ _ h => h) hSw0 (yieldsIf_of rfl ?hy_2) ?hrest_2
      case hy_2 => (intro w_ hS_; (first | (go_simp; done) | (go_simp; with_reducible rfl)))
      try simp only [Act.put, List.setIfInBounds_toArray, List.set_cons_zero, List.set_cons_succ]
      refine wpAnyL_take 2 (oi := ⟨(some 38), (.move (.tmp 9)), 3, "more.go:47", #[], none⟩) (v := ?v_3) rfl (by kernel_rfl) (fun _ _ _ h => h) hSw0 (yieldsIf_of rfl ?hy_3) ?hrest_3
      case hy_3 => (intro w_ hS_; (first | (go_simp; done) | (go_simp; with_reducible rfl)))
      try simp only [Act.put, List.setIfInBounds_toArray, List.set_cons_zero, List.set_cons_succ]
      refine wpAnyL_take 3 (oi := ⟨(some 39), (.indexAddr 22 (.tmp 37) (.tmp 38)), 0, "more.go:47", #[⟨1, .data⟩, ⟨2, .data⟩], none⟩) (v := ?v_4) rfl (by kernel_rfl) (fun _ _ _ h => h) hSw0 (yieldsIf_of rfl ?hy_4) ?hrest_4
      case hy_4 => (intro w_ hS_; (first | (go_simp; done) | (go_simp; with_reducible rfl)))
      try simp only [Act.put, List.setIfInBounds_toArray, List.set_cons_zero, List.set_cons_succ]
      refine wpAnyL_take 4 (oi := ⟨(some 40), (.load 23 (.tmp 39)), 23, "more.go:47", #[⟨3, .data⟩], none⟩) (v := ?v_5) rfl (by kernel_rfl) (fun _ _ _ h => h) hSw0 (yieldsIf_of rfl ?hy_5) ?hrest_5
      case hy_5 => (intro w_ hS_; have b0 := hS_.cell0 hcw; (first | (go_simp; done) | (go_simp; with_reducible rfl)))
      try simp only [Act.put, List.setIfInBounds_toArray, List.set_cons_zero, List.set_cons_succ]
      refine wpAnyL_take 5 (oi := ⟨(some 41), (.move (.tmp 0)), 22, "more.go:47", #[], none⟩) (v := ?v_6) rfl (by kernel_rfl) (fun _ _ _ h => h) hSw0 (yieldsIf_of rfl ?hy_6) ?hrest_6
      case hy_6 => (intro w_ hS_; (first | (go_simp; done) | (go_simp; with_reducible rfl)))
      try simp only [Act.put, List.setIfInBounds_toArray, List.set_cons_zero, List.set_cons_succ]
      refine wpAnyL_take 6 (oi := ⟨(some 42), (.move (.tmp 9)), 3, "more.go:47", #[], none⟩) (v := ?v_7) rfl (by kernel_rfl) (fun _ _ _ h => h) hSw0 (yieldsIf_of rfl ?hy_7) ?hrest_7
      case hy_7 => (intro w_ hS_; (first | (go_simp; done) | (go_simp; with_reducible rfl)))
      try simp only [Act.put, List.setIfInBounds_toArray, List.set_cons_zero, List.set_cons_succ]
      refine wpAnyL_take 7 (oi := ⟨(some 43), (.indexAddr 22 (.tmp 41) (.tmp 42)), 0, "more.go:47", #[⟨5, .data⟩, ⟨6, .data⟩], none⟩) (v := ?v_8) rfl (by kernel_rfl) (fun _ _ _ h => h) hSw0 (yieldsIf_of rfl ?hy_8) ?hrest_8
      case hy_8 => (intro w_ hS_; (first | (go_simp; done) | (go_simp; with_reducible rfl)))
      try simp only [Act.put, List.setIfInBounds_toArray, List.set_cons_zero, List.set_cons_succ]
      refine wpAnyL_take 8 (oi := ⟨(some 44), (.load 23 (.tmp 43)), 23, "more.go:47", #[⟨7, .data⟩], none⟩) (v := ?v_9) rfl (by kernel_rfl) (fun _ _ _ h => h) hSw0 (yieldsIf_of rfl ?hy_9) ?hrest_9
      case hy_9 => (intro w_ hS_; have b0 := hS_.cell0 hcw; (first | (go_simp; done) | (go_simp; with_reducible rfl)))
      try simp only [Act.put, List.setIfInBounds_toArray, List.set_cons_zero, List.set_cons_succ]
      refine wpAnyL_take 9 (oi := ⟨(some 45), (.call ⟨(.builtin .len), #[(.tmp 44)], #[23]⟩), 3, "more.go:47", #[⟨8, .data⟩], none⟩) (v := ?v_10) rfl (by kernel_rfl) (fun _ _ _ h => h) hSw0 (yieldsIf_of rfl ?hy_10) ?hrest_10
      case hy_10 => (intro w_ hS_; have b0 := hS_.cell0 hcw; (first | (go_simp; done) | (go_simp; with_reducible rfl)))
      try simp only [Act.put, List.setIfInBounds_toArray, List.set_cons_zero, List.set_cons_succ]
      refine wpAnyL_take 10 (oi := ⟨(some 46), (.call ⟨(.builtin .min), #[(.tmp 45), (.const (.int .i64 64))], #[3, 3]⟩), 3, "more.go:47", #[⟨9, .data⟩], none⟩) (v := ?v_11) rfl (by kernel_rfl) (fun _ _ _ h => h) hSw0 (yieldsIf_of rfl ?hy_11) ?hrest_11
      case hy_11 => (intro w_ hS_; have b0 := hS_.cell0 hcw; (first | (go_simp; done) | (go_simp; with_reducible rfl)))
      try simp only [Act.put, List.setIfInBounds_toArray, List.set_cons_zero, List.set_cons_succ]
      refine wpAnyL_take 11 (oi := ⟨(some 47), (.slice 23 (.tmp 40) none (some (.tmp 46)) none), 23, "more.go:47", #[⟨4, .data⟩, ⟨10, .data⟩], none⟩) (v := ?v_12) rfl (by kernel_rfl) (fun _ _ _ h => h) hSw0 (yieldsIf_of rfl ?hy_12) ?hrest_12
      case hy_12 => (intro w_ hS_; (first | (go_simp; done) | (go_simp; with_reducible rfl)))
      try simp only [Act.put, List.setIfInBounds_toArray, List.set_cons_zero, List.set_cons_succ]
      refine wpAnyL_take 12 (oi := ⟨(some 48), (.move (.tmp 9)), 3, "more.go:47", #[], none⟩) (v := ?v_13) rfl (by kernel_rfl) (fun _ _ _ h => h) hSw0 (yieldsIf_of rfl ?hy_13) ?hrest_13
      case hy_13 => (intro w_ hS_; (first | (go_simp; done) | (go_simp; with_reducible rfl)))
      try simp only [Act.put, List.setIfInBounds_toArray, List.set_cons_zero, List.set_cons_succ]
      refine wpAnyL_take 13 (oi := ⟨(some 49), (.convert 3 5 (.tmp 48)), 5, "more.go:47", #[⟨12, .data⟩], none⟩) (v := ?v_14) rfl (by kernel_rfl) (fun _ _ _ h => h) hSw0 (yieldsIf_of rfl ?hy_14) ?hrest_14
      case hy_14 => (intro w_ hS_; (first | (go_simp; done) | (go_simp; with_reducible rfl)))
      try simp only [Act.put, List.setIfInBounds_toArray, List.set_cons_zero, List.set_cons_succ]
      refine wpAnyL_one 14 (o := ⟨(some 50), (.buildSlice 23 1 #[(0, (.tmp 49))]), 23, "more.go:47", #[⟨13, .data⟩], none⟩) rfl (by kernel_rfl) rfl (by kernel_rfl) (fun K hK => ?_)
      go_simp
      refine hK.out _ _ ?kS15 (fun hSw1 => ?kR15)
      case kS15 => exact ((Fr.refl _ wr).alloc _).drew
      clear hK K
      try simp only [Act.put, List.setIfInBounds_toArray, List.set_cons_zero, List.set_cons_succ]
      refine wpAnyL_late 15 (o := ⟨(some 51), (.call ⟨(.value (.func 8)), #[(.tmp 36), (.tmp 47), (.tmp 50)], #[25, 23, 23]⟩), 28, "more.go:47", #[⟨0, .data⟩, ⟨11, .data⟩, ⟨14, .data⟩], none⟩) rfl (by kernel_rfl) rfl (by kernel_rfl) (fun K hK => ?_)
      go_simp
      have hblk := heap_alloc_new wr (.cells #[.int .u8 (k : Int)] 5)
      have FW := (((Fr.refl C0 wr).alloc (.cells #[.int .u8 (k : Int)] 5)).drew)
      have hbv : bv (UInt8.ofNat k) = .int .u8 (k : Int) := by unfold bv; rw [UInt8.toNat_ofNat_of_lt' (by show k < 256; omega)]
      refine (pieces_put (key := ks[k].take n) (val := [UInt8.ofNat k]) HO.out HN.out ⟨HPP.out.st.fr0 FW, HPP.out.pages, HPP.out.state, HPP.out.len⟩ hlt2 ((HKB.out.fr0 FW).take hnl) (bytesAt_row.2 (by
        have := Row.ofBlock (F := Dt c) (n := 1) (size := 1) (w := (wr.alloc (.cells #[.int .u8 (k : Int)] 5)).drew) hblk (HPP.out.st.tr.cl _ (Nat.le_refl _)) (by unfold maxLen; omega) rfl
        simpa [hbv] using this)) (by rw [List.length_take]; omega) (by simp)).mono ?_
      rintro e w' ⟨i, rfl, HP'⟩
      simp only []
      clear hblk FW hbv
      refine hK.out _ _ ?_; clear hK K
      try simp only [Act.put, List.setIfInBounds_toArray, List.set_cons_zero, List.set_cons_succ]
      refine wpAnyL_done (by kernel_rfl) ?_ _
      clear HPP HKB hcw
      go_wp2
      go_roundw
      case rel => exact ⟨k + 1, by omega, by go_num, HP'⟩
      case measure => simp [intOf]; omega
    · have hk40 : ¬ (k : Int) < (ks.length : Int) ∨ (k : Int) < (ks.length : Int) ∧ ¬ (k : Int) < 40 := by omega
      obtain ⟨c, Z, hp⟩ := HP.out
      have HPP := Lib.hid hp
      clear hlt hp HP
      go_upto_region 5 with fail
      go_cut [33] from 26 to 33 (fun s wx => s = .bool false ∧ wx = wr)
      case first =>
        rcases hk40 with h1 | ⟨h1, h2⟩
        · go_wp2_with fail
          go_meet
          case rel => exact ⟨rfl, rfl⟩
        · go_wp2_with fail
          go_meet
          case rel => exact ⟨rfl, rfl⟩
      case rest =>
        obtain ⟨rfl, rfl⟩ := hcut
        obtain ⟨n, hn64, hnl, hmin⟩ : ∃ n : Nat, n ≤ 64 ∧ n ≤ cut.length ∧ (if (64 : Int) < (cut.length : Int) then (64 : Int) else (cut.length : Int)) = (n : Int) := ⟨min cut.length 64, by omega, by omega, by split <;> omega⟩
        have hnc : (n : Int) ≤ (cc : Int) := by omega
        have HC1 := Lib.hid (came_in (c := c) HCUT.out HZ.out HPP.out.st.fr HPP.out.st.ag)
        have HC2 := Lib.hid (HC1.out.take hnl)
        have HCL2 : Hid ((cut.take n).length = n) := Lib.hid (by rw [List.length_take]; omega)
        clear hk40
        have HPU := Lib.hid HPP.out
        obtain ⟨qa, hqa1, hqa2, hqa3⟩ := own_many HPP.out.st.tr.cl [r, rn, rm]
        have HR1 := Lib.hid (fun (w_ : World) (hf : Fr C0 wc w_) => range_at (q := qa) (n := 999) (lov := .slice none 0 0) (hiv := .slice none 0 0) (lo := []) (hi := []) hqa2 (hqa3 r (by simp)) (hqa3 rn (by simp)) hqa1 (by omega) (HPP.out.st.fr0 hf).tr sl_nil sl_nil (by simp) (by simp))
        have HQA := Lib.hid hqa2
        clear hqa1 hqa2 hqa3
        go_wp2_with fail
        refine (HR1.out _ (Fr.refl _ _)).mono ?_
        rintro e w2 ⟨f2, allv, c2, rfl, ag2, cl2, o2⟩
        have hlen := HPP.out.len
        have htk : (rangeL [] [] (rootL Z.now)).take 999 = rootL Z.now := by rw [rangeL_all, List.take_of_length_le (by omega)]
        rw [htk] at o2
        have hsz0 := HPP.out.st.fr.size
        have A2 : Hid (PcA c0 w r rn rm tp Z qa allv c2 w2) := Lib.hid ⟨HPP.out.st.move f2 ag2 cl2, o2.lower hsz0, by omega⟩
        have C2 := Lib.hid (data_move HC2.out f2 ag2)
        obtain ⟨AA, ac, rfl, -⟩ := o2.form
        clear HR1 f2 ag2 cl2 o2 htk hsz0 HPP HC1 HC2 HPU hlen
        go_upto_if 64 with fail
        go_cut [] (fun wx => Hid (∃ c', PcA c0 w r rn rm tp Z qa (.slice AA (rootL Z.now).length ac) c' wx))
        case first =>
          by_cases hn0 : n = 0
          · have h0 : ¬ (0 : Int) < (n : Int) := by omega
            clear hn0
            go_wp2_with fail
            go_meet
            case rel => exact Lib.hid ⟨c2, A2.out⟩
          · have h0 : (0 : Int) < (n : Int) := by omega
            have HNE : Hid (cut.take n ≠ []) := Lib.hid (fun e => by have := HCL2.out; rw [e] at this; simp at this; omega)
            have hL1 : (rangeL [] (cut.take n) (rootL Z.now)).length ≤ 40 := Nat.le_trans (List.length_filter_le _ _) A2.out.len
            have hL2 : (rangeL (cut.take n) [] (rootL Z.now)).length ≤ 40 := Nat.le_trans (List.length_filter_le _ _) A2.out.len
            have HRL := Lib.hid (pcs_range (n := 999) (lov := .slice none 0 0) (hiv := .slice CA n cc) (lo := []) (hi := cut.take n) A2.out [] (List.take_of_length_le (by omega)) (by omega) sl_nil C2.out (by simp) (by rw [HCL2.out]; omega))
            clear hn0
            go_wp2_with fail
            refine HRL.out.mono ?_
            rintro e w3 ⟨LA, lc, rfl, H3⟩
            obtain ⟨f3, c3, q3, a3, ag3, o3, hq3, -⟩ := H3.out
            have C3 := Lib.hid (data_move C2.out f3 ag3)
            have HRH := Lib.hid (pcs_range (n := 999) (lov := .slice CA n cc) (hiv := .slice none 0 0) (lo := cut.take n) (hi := []) a3 [q3] (List.take_of_length_le (by omega)) (by omega) C3.out sl_nil (by rw [HCL2.out]; omega) (by simp))
            have O3 := Lib.hid o3
            have HQ3 := Lib.hid hq3
            clear HRL H3 f3 a3 ag3 o3 hq3
            go_wp2_with fail
            refine HRH.out.mono ?_
            rintro e w4 ⟨RA, rc, rfl, H4⟩
            obtain ⟨f4, c4, q4, a4, ag4, o4, hq4, hq34⟩ := H4.out
            have P4 := Lib.hid a4
            have O34 := Lib.hid ((O3.out.ag ag4).fr0 f4)
            have O4 := Lib.hid o4
            have HL4 := Lib.hid a4.len
            have HCUTL := Lib.hid (range_cut HNE.out a4.st.tr.bk.sn)
            clear HRH H4 f4 a4 ag4 o4 hq34 A2 C2 C3 O3
            obtain ⟨xs, ox, px, hx⟩ := O34.out
            obtain ⟨ys, oy, py, hy⟩ := O4.out
            have OX := Lib.hid ox
            have OY := Lib.hid oy
            have hone : Hid (∀ u ∈ ys, u.oneCell' = true) := Lib.hid (pair_one py)
            have HPX := Lib.hid px
            have HPY := Lib.hid py
            have HX := Lib.hid hx
            clear px py hx hy
            clear ox oy
            go_wp2_with (at_builtin; go_must (refine wpl_appG sl_pair rfl _ _ rfl (v := .slice LA (rangeL [] (cut.take n) (rootL Z.now)).length lc) (xv := .slice RA (rangeL (cut.take n) [] (rootL Z.now)).length rc) rfl rfl (B := 0) OX.out (Row.ofOwn OY.out (F := fun _ => True) (fun _ _ => trivial)) hone.out (by unfold maxLen; omega) (by omega) (Nat.zero_le _) ?_); intro v5 w5 o5 f5 k5 nil5; obtain ⟨A5, c5, rfl, -⟩ := own_form o5)
            have hs4 := P4.out.st.fr.size
            have hlow : ∀ b, (Value.slice LA (rangeL [] (cut.take n) (rootL Z.now)).length lc).ownBlock = some b → c4 b = q3 ∧ w.heap.size ≤ b ∧ b < w4.heap.size := fun b e => ⟨(HX.out b e).1, (HX.out b e).2, (OX.out.lt b e).2⟩
            have hag5 : Ag w4.heap.size c4 (setc c4 (Value.slice A5 ((rangeL [] (cut.take n) (rootL Z.now)).length + (rangeL (cut.take n) [] (rootL Z.now)).length) c5).ownBlock q3) := setc_ag (fun b e => (hlow b e).1) k5
            have hcl5 : Cl w5 (setc c4 (Value.slice A5 ((rangeL [] (cut.take n) (rootL Z.now)).length + (rangeL (cut.take n) [] (rootL Z.now)).length) c5).ownBlock q3) := fun b hb => by
              have := f5.size
              unfold setc
              split
              · rename_i e; have := (o5.lt b e).2; omega
              · exact P4.out.st.tr.cl b (by omega)
            have P5 := Lib.hid (P4.out.turn f5 hlow HQ3.out hag5 hcl5)
            have hnd : ∀ b, (c4 b = 0 ∧ w.heap.size ≤ b) → ¬ (Value.slice LA (rangeL [] (cut.take n) (rootL Z.now)).length lc).ownBlock = some b := fun b h e => HQ3.out.1 (by rw [← (hlow b e).1]; exact h.1)
            have hpairs : PairsAt (fun _ => True) w5 (.slice A5 ((rangeL [] (cut.take n) (rootL Z.now)).length + (rangeL (cut.take n) [] (rootL Z.now)).length) c5) (rangeL [] (cut.take n) (rootL Z.now) ++ rangeL (cut.take n) [] (rootL Z.now)) := by
              refine ⟨xs ++ ys, by rw [List.length_append]; exact Row.ofOwn o5 (fun _ _ => trivial), PairCells.append ((HPY.out.fr f5 hnd).mono (fun _ _ _ => trivial)) ((HPX.out.fr f5 hnd).mono (fun _ _ _ => trivial))⟩
            rw [HCUTL.out] at hpairs
            have HSM := Lib.hid (same_calls hpairs (OutAt.pairs (F := fun _ => True) P5.out.al (fun _ _ _ => trivial)))
            rw [decide_eq_true rfl] at HSM
            have hlsum : (rangeL [] (cut.take n) (rootL Z.now)).length + (rangeL (cut.take n) [] (rootL Z.now)).length = (rootL Z.now).length := by rw [← List.length_append, HCUTL.out]
            have HLS := Lib.hid hlsum
            clear hpairs hnd hag5 hcl5 hlow o5 f5 k5 nil5 hlsum hs4
            refine HSM.out.mono ?_
            rintro e w6 ⟨rfl, f6⟩
            have P6 := Lib.hid (P5.out.move f6 (Ag.refl _ _) (P5.out.st.tr.cl.mono f6.size))
            clear f6
            go_wp2_with fail
            go_meet
            case rel => exact Lib.hid ⟨_, P6.out⟩
        case rest =>
          obtain ⟨c2', a2'⟩ := hcut.out
          have A3 := Lib.hid a2'
          obtain ⟨qo, hqo1, hqo2, hqo3⟩ := own_many a2'.st.tr.cl [r, rn, rm, qa]
          have B3 : Hid (PcB c0 w r rn rm tp Z qa qo (.slice AA (rootL Z.now).length ac) (.slice none 0 0) (.slice none 0 0) [] [] c2' wc) := Lib.hid ⟨a2', OutAt.nil _ _ _ _ _, sl_nil, by simp, ⟨hqo2, hqo3 r (by simp), hqo3 rn (by simp), hqo3 rm (by simp), hqo3 qa (by simp)⟩, by rw [rangeL_all]; rfl⟩
          have hb7 := and7 m
          obtain ⟨b7, hb8, hb9⟩ : ∃ b : Nat, b < 8 ∧ m % 8 = (b : Int) := ⟨(m % 8).toNat, by omega, by omega⟩
          rw [hb9] at hb7
          clear hcut a2' hqo1 hqo2 hqo3 A2 C2 hb9 A3
          go_wp2
          go_loopg [16, 17, 18, 19] (rootL Z.now).length (fun gk out lov _ _ wr => ∃ A cp B cq, ∃ Lo : List KV, ∃ lo : Bs, out = .slice A Lo.length cp ∧ lov = .slice B lo.length cq ∧ Hid (∃ c, PcB c0 w r rn rm tp Z qa qo (.slice AA (rootL Z.now).length ac) out lov Lo lo c wr) ∧ Hid ((rangeL lo [] (rootL Z.now)).length ≤ gk))
          case atStart => exact ⟨none, 0, none, 0, [], [], rfl, rfl, Lib.hid ⟨_, B3.out⟩, Lib.hid (by rw [rangeL_all]; exact Nat.le_refl _)⟩
          case round =>
            obtain ⟨A, cp, B, cq, Lo, lo, rfl, rfl, HB, HG⟩ := hrel
            obtain ⟨c, hb⟩ := HB.out
            have P := Lib.hid hb
            clear HB hb B3
            have hLl : ((rangeL lo [] (rootL Z.now)).take (b7 + 1)).length ≤ b7 + 1 := by rw [List.length_take]; omega
            have HRG := Lib.hid (pcs_range (n := b7 + 1) (hiv := .slice none 0 0) (hi := []) P.out.a [qo] rfl (by omega) P.out.dl sl_nil P.out.ll (by simp))
            obtain ⟨LL, hLL⟩ : ∃ LL, LL = (rangeL lo [] (rootL Z.now)).take (b7 + 1) := ⟨_, rfl⟩
            have HLL := Lib.hid hLL
            rw [← hLL] at hLl HRG
            clear hLL
            have hcast : ((b7 + 1 : Nat) : Int) = (b7 : Int) + 1 := by omega
            rw [hcast] at HRG
            clear hcast
            have hgt : ¬ ((b7 : Int) + 1 < (LL.length : Int)) := by omega
            go_wp2_with fail
            refine HRG.out.mono ?_
            rintro e w3 ⟨RA, rc, rfl, H3⟩
            obtain ⟨f3, c3, q3, a3, ag3, o3, hq3, hqo⟩ := H3.out
            have P3 := Lib.hid a3
            have OO := Lib.hid ((P.out.out.ag ag3).fr0 f3)
            have O3 := Lib.hid o3
            have HQ3 := Lib.hid (And.intro hq3 (hqo qo (by simp)))
            have D3 := Lib.hid (data_move P.out.dl f3 ag3)
            have hLlo : Lo.length ≤ 40 := by
              have h1 := congrArg List.length P.out.eq
              rw [List.length_append] at h1
              have := P.out.a.len
              omega
            clear f3 a3 ag3 o3 hq3 hqo H3 HRG
            obtain ⟨xs, ox, px, hx⟩ := OO.out
            obtain ⟨ys, oy, py, hy⟩ := O3.out
            have OX := Lib.hid ox
            have OY := Lib.hid oy
            have hone := Lib.hid (pair_one py)
            have HPX := Lib.hid px
            have HPY := Lib.hid py
            have HX := Lib.hid hx
            have HY := Lib.hid hy
            clear ox oy px py hx hy
            by_cases hfull : LL.length = b7 + 1
            · have hnl : ¬ ((LL.length : Int) < (b7 : Int) + 1) := by omega
              have hb7 : b7 < LL.length := by omega
              have hb7i : (b7 : Int) < (LL.length : Int) := by omega
              have HFULL := Lib.hid hfull
              obtain ⟨g, o, kvk, vvk, rfl, -, hkc, -, hkb, -⟩ := (OutAt.pairs (F := fun b => ¬ (Value.slice A Lo.length cp).ownBlock = some b) O3.out (fun b _ h e => by
                have h1 := (HX.out b e).1
                rcases h with h | h
                · exact P.out.q.1 (h1.symm.trans h)
                · exact HQ3.out.2 (h.symm.trans h1))).at_ b7 hb7
              have hgo : ¬ (Value.slice A Lo.length cp).ownBlock = some g := fun e => HQ3.out.2 ((HY.out g rfl).1.symm.trans (HX.out g e).1)
              have HKB := Lib.hid hkb
              obtain ⟨KA2, kc2, rfl, -⟩ := hkb.form
              have hmem : ∀ x ∈ LL, x ∈ rootL Z.now := fun x hx => by
                rw [HLL.out] at hx
                exact (List.mem_filter.1 (List.mem_of_mem_take hx)).1
              have hxok := P3.out.st.tr.ok LL[b7] (hmem _ (List.getElem_mem _))
              have hkl64 : LL[b7].1.length ≤ 64 := hxok.2.1
              have hkat : LL[b7]? = some LL[b7] := List.getElem?_eq_getElem _
              have HKAT : Hid (∃ x : KV, LL[b7]? = some x ∧ x.1 = LL[b7].1) := Lib.hid ⟨_, hkat, rfl⟩
              generalize LL[b7].1 = key at *
              clear hkb hfull hxok hkat hmem
              go_wp2_with (at_builtin; go_must (refine wpl_app sl_pair rfl _ _ rfl (v := .slice A Lo.length cp) (xv := .slice (some ⟨g, o, none⟩) LL.length rc) rfl rfl (B := 0) OX.out (Row.ofOwn OY.out (F := fun _ => True) (fun _ _ => trivial)) hone.out (by unfold maxLen; omega) (by omega) (Nat.zero_le _) ?_); intro v5 w5 o5 f5 k5 nil5; have kcell := f5.cell hkc hgo; obtain ⟨A5, c5, rfl, -⟩ := own_form o5)
              have HK5 := Lib.hid (HKB.out.fr f5 (fun b h e => h e))
              obtain ⟨c6, p6, o6, -⟩ := pcs_add P3.out OX.out HPX.out HX.out HPY.out P.out.q o5 f5 k5
              have P6 := Lib.hid p6
              have O6 := Lib.hid o6
              clear p6 o6 o5 f5 k5 nil5 kcell hkc
              refine (copied2_calls HK5.out (by omega)).mono ?_
              rintro e w6 ⟨v6, rfl, f6, o6⟩
              have F6 := Lib.hid f6
              have O6R := Lib.hid o6
              obtain ⟨A6, cp6, rfl, -⟩ := own_form o6
              have hs6 := f6.size
              clear f6 o6
              have HS6 := Lib.hid hs6
              by_cases hk65 : 64 < key.length + 1
              · have hk65i : (64 : Int) < (key.length : Int) + 1 := by omega
                go_wp2_with (at_builtin; go_must (refine wpl_app sl_u8 rfl _ _ rfl (v := .slice A6 key.length cp6) (xv := .slice (some ⟨w6.heap.size, 0, none⟩) 1 1) rfl rfl (B := w5.heap.size) (own_kept O6R.out ((Fr.refl C0 w6).alloc _) (fun _ _ h => h)) (Row.ofBlock (F := fun _ => True) (heap_alloc_new _ _) trivial (by unfold maxLen; omega) rfl) (by simp [Value.oneCell']) (by unfold maxLen; omega) (by omega) (by simp; omega) ?_); intro v7 w7 o7 f7 k7 nil7; obtain ⟨A7, c7, rfl, -⟩ := own_form o7)
                have F57 := Lib.hid ((F6.out.trans0 ((Fr.refl C0 w6).alloc _)).trans f7 (fun b hb e => by have := (O6R.out.lt b e).1; omega))
                clear f7 k7 nil7 o7
                refine (told_calls (P6.out.move F57.out (Ag.refl _ _) (P6.out.st.tr.cl.mono F57.out.size)).st.tr.cl).mono ?_
                rintro e w8 ⟨rfl, f8⟩
                have F8 := Lib.hid f8
                clear f8
                go_wp2
                go_ret
                exact ⟨rfl, (P6.out.st.fr.trans0 F57.out).trans0 F8.out⟩
              · have hk65i : ¬ (64 : Int) < (key.length : Int) + 1 := by omega
                go_wp2_with (at_builtin; go_must (refine wpl_app sl_u8 rfl _ _ rfl (v := .slice A6 key.length cp6) (xv := .slice (some ⟨w6.heap.size, 0, none⟩) 1 1) rfl rfl (B := w5.heap.size) (own_kept O6R.out ((Fr.refl C0 w6).alloc _) (fun _ _ h => h)) (Row.ofBlock (F := fun _ => True) (heap_alloc_new _ _) trivial (by unfold maxLen; omega) rfl) (by simp [Value.oneCell']) (by unfold maxLen; omega) (by omega) (by simp; omega) ?_); intro v7 w7 o7 f7 k7 nil7; obtain ⟨A7, c7, rfl, -⟩ := own_form o7)
                have F57 := Lib.hid ((F6.out.trans0 ((Fr.refl C0 w6).alloc _)).trans f7 (fun b hb e => by have := (O6R.out.lt b e).1; omega))
                have O7 := Lib.hid o7
                have K7 := Lib.hid k7
                clear f7 k7 nil7 o7
                go_roundg ((rangeL (key ++ [0]) [] (rootL Z.now)).length)
                case measure =>
                  obtain ⟨x, hx1, hx2⟩ := HKAT.out
                  have h1 := range_next (n := b7 + 1) (k := x) P6.out.st.tr.bk.sn (by omega) (by rw [HLL.out, List.getElem?_take_of_lt (by omega)] at hx1; exact hx1)
                  rw [hx2] at h1
                  rw [h1, List.length_drop]
                  have h2 := HG.out
                  have h3 := congrArg List.length HLL.out
                  rw [List.length_take, HFULL.out] at h3
                  omega
                case rel =>
                  obtain ⟨x, hx1, hx2⟩ := HKAT.out
                  have h1 := range_next (n := b7 + 1) (k := x) P6.out.st.tr.bk.sn (by omega) (by rw [HLL.out, List.getElem?_take_of_lt (by omega)] at hx1; exact hx1)
                  rw [hx2] at h1
                  have hg : ∀ b, (Value.slice A7 (key.length + 1) c7).ownBlock = some b → w5.heap.size ≤ b := fun b e => (O7.out.lt b e).1
                  refine ⟨A5, c5, A7, c7, Lo ++ LL, key ++ [0], by rw [List.length_append], by rw [List.length_append]; rfl, Lib.hid ⟨c6, P6.out.move F57.out (Ag.refl _ _) (P6.out.st.tr.cl.mono F57.out.size), O6.out.fr0 F57.out, BytesAt.ofOwn (B := w5.heap.size) (e := 5) (by rw [List.length_append, List.map_append]; exact O7.out) (fun b e => P6.out.st.tr.cl b (hg b e)), by rw [List.length_append]; simp; omega, P.out.q, ?_⟩, Lib.hid (Nat.le_refl _)⟩
                  rw [h1, HLL.out, List.append_assoc, List.take_append_drop]
                  exact P.out.eq
            · have hll : (LL.length : Int) < (b7 : Int) + 1 := by omega
              have HEQ : Hid (Lo ++ LL = rootL Z.now) := Lib.hid (by
                have h1 : (rangeL lo [] (rootL Z.now)).length ≤ b7 + 1 := by
                  have := congrArg List.length HLL.out
                  rw [List.length_take] at this
                  omega
                rw [HLL.out, List.take_of_length_le h1]
                exact P.out.eq)
              clear hfull
              go_wp2_with (at_builtin; go_must (refine wpl_app sl_pair rfl _ _ rfl (v := .slice A Lo.length cp) (xv := .slice RA LL.length rc) rfl rfl (B := 0) OX.out (Row.ofOwn OY.out (F := fun _ => True) (fun _ _ => trivial)) hone.out (by unfold maxLen; omega) (by omega) (Nat.zero_le _) ?_); intro v5 w5 o5 f5 k5 nil5; obtain ⟨A5, c5, rfl, -⟩ := own_form o5)
              obtain ⟨c6, p6, o6, -⟩ := pcs_add P3.out OX.out HPX.out HX.out HPY.out P.out.q o5 f5 k5
              have P6 := Lib.hid p6
              have O6 := Lib.hid o6
              clear p6 o6 o5 f5 k5 nil5
              refine (told_calls P6.out.st.tr.cl).mono ?_
              rintro e w6 ⟨rfl, f6⟩
              have F6 := Lib.hid f6
              have hp1 : PairsAt (fun _ => True) w6 (.slice A5 (Lo.length + LL.length) c5) (rootL Z.now) := by
                have := OutAt.pairs (F := fun _ => True) (O6.out.fr0 f6) (fun _ _ _ => trivial)
                rw [HEQ.out] at this
                exact this
              have HSM := Lib.hid (same_calls hp1 (OutAt.pairs (F := fun _ => True) (P6.out.al.fr0 f6) (fun _ _ _ => trivial)))
              rw [decide_eq_true rfl] at HSM
              clear hp1 f6
              go_wp2_with fail
              refine HSM.out.mono ?_
              rintro e w7 ⟨rfl, f7⟩
              have F7 := Lib.hid f7
              clear f7
              go_wp2
              go_ret
              exact ⟨rfl, (P6.out.st.fr.trans0 F6.out).trans0 F7.out⟩
end Go.Proofs.Ytcmicdcikechkaa
end
