import Derived.Test.YtcmicdcikechkaaPieces15
import Derived.Test.YtcmicdcikechkaaPieces16
import Derived.Test.YtcmicdcikechkaaProg
import Derived.Test.YtcmicdcikechkaaPieces11
import Derived.Test.YtcmicdcikechkaaPieces12
import Derived.Deep.LoopGhost
set_option linter.all false
section
namespace Go.Proofs.Ytcmicdcikechkaa
open Go.RowKit Go.H
set_option maxHeartbeats 1000000
set_option maxRecDepth 100000
theorem openCells_last {F : Nat → Prop} {w : World} (k : Nat) : ∀ {xs : List Value} {l : List (Nat × Bs)} {b : Bs}, OpenCells F w xs l → lastOpen k l = some b → b.length = 8192
  | _, _, b, .nil, h => by simp [lastOpen] at h
  | _, _, b, .cons (b := b') (l := l) h1 h2 h3, h => by
    unfold lastOpen at h
    cases hl : lastOpen k l with
    | some b2 => rw [hl] at h; injection h with h; subst h; exact openCells_last k h3 hl
    | none =>
      rw [hl] at h
      simp only at h
      split at h
      · injection h with h; subst h; exact h2
      · cases h
theorem read_len {dT oT : Nat} {F : Nat → Prop} {w : World} {d m : Nat} {ov : Value} {s : DSt} (h : DiskAt dT oT F w d m ov s) (k : Nat) : (s.read k).length = 8192 := by
  unfold DSt.read
  cases hl : lastOpen k s.opn with
  | some b => obtain ⟨xs, _, o⟩ := h.opn; exact padB_length (by rw [openCells_last k o hl]; omega)
  | none => exact h.good_length k
def pgs (D : DSt) (id : Nat) : Option Bs := pageOf (D.read id)
structure Hd (c : Nat → Nat) (r : Nat) (w : World) (tp st : Nat) (S : SSt) (D : DSt) : Prop where
  cell : w.cell? ⟨tp, 0, none⟩ = some (.pointer (some ⟨st, 0, none⟩))
  store : StoreOk c r w st S D
  alive : Alive S D
  own : c tp = r
theorem StoreOk.fr {c : Nat → Nat} {r : Nat} {w w' : World} {st : Nat} {S : SSt} {D : DSt} {C : Nat → Prop} (h : StoreOk c r w st S D) (hf : Fr C w w') (h1 : ∀ b, C b → c b ≠ r) (h2 : ∀ b, C b → c b ≠ 0) : StoreOk c r w' st S D := by
  obtain ⟨sm, d, m, ov, h⟩ := h; exact ⟨sm, d, m, ov, h.fr hf h1 h2⟩
theorem Hd.fr {c : Nat → Nat} {r : Nat} {w w' : World} {tp st : Nat} {S : SSt} {D : DSt} {C : Nat → Prop} (h : Hd c r w tp st S D) (hf : Fr C w w') (h1 : ∀ b, C b → c b ≠ r) (h2 : ∀ b, C b → c b ≠ 0) : Hd c r w' tp st S D :=
  ⟨hf.cell h.cell (fun k => h1 _ k h.own), h.store.fr hf h1 h2, h.alive, h.own⟩
theorem Hd.fr0 {c : Nat → Nat} {r : Nat} {w w' : World} {tp st : Nat} {S : SSt} {D : DSt} (h : Hd c r w tp st S D) (hf : Fr C0 w w') : Hd c r w' tp st S D := h.fr hf (fun _ k => k.elim) (fun _ k => k.elim)
theorem DiskAt.ag {dT oT : Nat} {c c' : Nat → Nat} {w : World} {d m : Nat} {ov : Value} {s : DSt} (h : DiskAt dT oT (Dt c) w d m ov s) (ha : Ag w.heap.size c c') : DiskAt dT oT (Dt c') w d m ov s := h.mono fun b hb hl => (ha b hl).trans hb
theorem StoreOk.ag {c c' : Nat → Nat} {r : Nat} {w : World} {st : Nat} {S : SSt} {D : DSt} (h : StoreOk c r w st S D) (ha : Ag w.heap.size c c') : StoreOk c' r w st S D := by
  obtain ⟨sm, d, m, ov, h⟩ := h
  have hm : m < w.heap.size := by obtain ⟨M, k1, _⟩ := h.disk.kept; exact k1.lt
  obtain ⟨xs, o1, _⟩ := h.disk.opn
  exact ⟨sm, d, m, ov, h.blk, h.map, DiskAt.ag h.disk ha, (ha _ (Array.getElem?_eq_some_iff.1 h.blk).1).trans h.ost, (ha _ h.map.lt).trans h.osm, (ha _ (Array.getElem?_eq_some_iff.1 h.disk.blk).1).trans h.od, (ha _ hm).trans h.om, fun b hb => (ha b (o1.lt b hb).2).trans (h.oov b hb), h.ne⟩
theorem Hd.ag {c c' : Nat → Nat} {r : Nat} {w : World} {tp st : Nat} {S : SSt} {D : DSt} (h : Hd c r w tp st S D) (ha : Ag w.heap.size c c') : Hd c' r w tp st S D :=
  ⟨h.cell, h.store.ag ha, h.alive, (ha _ (World.block_lt_of_cell? w _ h.cell)).trans h.own⟩
abbrev corrupt : Ending := .panicked [{ v := .iface 28 (.int .i64 22), recovered := false }]
def Loaded (c : Nat → Nat) (rn : Nat) (w : World) (pg : Nat → Option Bs) (N : Nat) (X : Prop) (d : Nat) (t : T) (n g o : Nat) (kvs : List Value) (v : Value) : Prop :=
  NodeAt (Dt c) w n g o t.id t.l kvs v ∧ (c n = rn ∨ c n = 0) ∧ (kvs ≠ [] → c g = rn ∨ c g = 0) ∧ All2 (Rep c rn w pg N X d) t.ks kvs
def LoadRes (c : Nat → Nat) (rn : Nat) (w w' : World) (pg : Nat → Option Bs) (N : Nat) (X : Prop) (d : Nat) (t : T) (e : Ending) : Prop :=
  Fr C0 w w' ∧ ((X ∧ e = corrupt) ∨ ∃ v n g o kvs, e = .returned v ∧ Loaded c rn w' pg N X d t n g o kvs v ∧ All2 (Rep c rn w pg N X d) t.ks kvs)
theorem All2.ofMap {α β : Type} {R : α → β → Prop} {f : α → β} : ∀ {l : List α}, (∀ a ∈ l, R a (f a)) → All2 R l (l.map f)
  | [], _ => .nil
  | a :: l, h => .cons (h a (by simp)) (All2.ofMap fun b hb => h b (List.mem_cons_of_mem _ hb))
theorem load_calls {c : Nat → Nat} {r rn : Nat} {w : World} {tp st : Nat} {S : SSt} {D : DSt} {X : Prop} {d m : Nat} {t : T} {v : Value} (h : Hd c r w tp st S D) (hc : Cl w c) (hr : Rep c rn w (pgs D) D.blocks X (d + 1) t v) (hs : Shape (d + 1) m t) (hm : 1 ≤ m) :
    Calls Try.prog 64 #[.pointer (some ⟨tp, 0, none⟩), v] w fun e w' => LoadRes c rn w w' (pgs D) D.blocks X d t e := by
  obtain ⟨nm, l, ks⟩ := t
  cases nm with
  | mem n g o =>
    obtain ⟨kvs, hn, hcn, hcg, hk, _⟩ := hr
    have HL := Lib.hid (show LoadRes c rn w w (pgs D) D.blocks X d (.node (.mem n g o) l ks) (.returned v) from ⟨Fr.refl _ _, .inr ⟨v, n, g, o, kvs, rfl, ⟨hn, .inl hcn, fun h => .inl (hcg h), hk⟩, hk⟩⟩)
    obtain ⟨lv, _, _, _, h3⟩ := hn
    clear h hc hs hcn hcg hk
    rcases h3 with ⟨_, rfl⟩ | ⟨_, rfl, _⟩
    · go_enter Try.func64, Try.ntmps64
      go_wp2
      go_ret
      exact HL.out
    · go_enter Try.func64, Try.ntmps64
      go_wp2
      go_ret
      exact HL.out
  | page id =>
    obtain ⟨rfl, hi1, hi2, hpg, hk⟩ := hr
    have hsz := h.alive.size
    have hsm := h.alive.small
    obtain ⟨sm, d0, m0, ov, hst⟩ := h.store
    have HG := Lib.hid (get_calls (b := D.read id) h.store h.alive hi1 (by omega) rfl (read_len hst.disk id))
    have hcell := h.cell
    have HPG := Lib.hid hpg
    have HC := Lib.hid hc
    obtain ⟨q1, q2, q3, q4⟩ := hs
    have HKV := Lib.hid q3
    have HK := Lib.hid hk
    have HIN : Hid (∀ k ∈ ks.map T.id, k < 16384) := by
      refine Lib.hid fun k hk' => ?_
      obtain ⟨x, hx, rfl⟩ := List.mem_map.1 hk'
      have := (hk x hx).2.num
      cases d with
      | zero => exact (hk x hx).2.elim
      | succ d =>
        obtain ⟨nm, lx, kx⟩ := x
        cases nm with
        | mem => exact (hk _ hx).1.elim
        | page j => have := (hk _ hx).2; obtain ⟨_, _, a3, _⟩ := this; show j < 16384; omega
    have HKS : Hid (if d = 0 then ks = [] else ks.length = l.length + 1) := by
      refine Lib.hid ?_
      split <;> rename_i hd
      · rwa [if_pos hd] at q4
      · rw [if_neg hd] at q4; exact q4.1
    have hl1 : 1 ≤ l.length := by omega
    clear hpg hk q3 q4 q1 hst h hc
    go_enter Try.func64, Try.ntmps64
    go_wp2_with fail
    refine HG.out.mono ?_
    rintro e w1 ⟨f1, r1⟩
    have F1 := Lib.hid f1
    clear f1 HG
    rcases HPG.out with hp | ⟨hX, hp⟩
    · rw [show pageOf (D.read id) = pgs D id from rfl, hp] at r1
      obtain ⟨bv1, rfl, b1⟩ := r1
      have B1 := Lib.hid b1
      clear b1
      have hRes : ∀ w2, Fr C0 w1 w2 → ∀ v' n g o, w1.heap.size ≤ n → (¬ d = 0 → w1.heap.size ≤ g) → NodeAt (fun b => w1.heap.size ≤ b) w2 n g o id l ((ks.map T.id).map wPage) v' → LoadRes c rn w w2 (pgs D) D.blocks X d (.node (.page id) l ks) (.returned v') := by
        intro w2 f2 v' n g o hn hg hN
        have hsz1 := F1.out.size
        refine ⟨F1.out.trans0 f2, .inr ⟨v', n, g, o, _, rfl, ⟨hN.mono (fun b hb _ => HC.out b (by omega)), .inr (HC.out _ (by omega)), fun hne => ?_, ?_⟩, ?_⟩⟩
        · have hd : ¬ d = 0 := by
            intro hd
            have := HKS.out
            rw [if_pos hd] at this
            subst this
            exact hne rfl
          exact .inr (HC.out _ (by have := hg hd; omega))
        · show All2 _ ks ((ks.map T.id).map wPage)
          rw [List.map_map]
          exact All2.ofMap fun k hk => ((HK.out k hk).2.fr0 F1.out).fr0 f2
        · show All2 _ ks ((ks.map T.id).map wPage)
          rw [List.map_map]
          exact All2.ofMap fun k hk => (HK.out k hk).2
      have HRes := Lib.hid hRes
      clear hRes
      by_cases hd : d = 0
      · have hks := HKS.out
        rw [if_pos hd] at hks
        subst hks
        have HRd := Lib.hid (tread_leaf (id := id) B1.out hl1 q2 HKV.out)
        obtain ⟨A, cc, rfl, -⟩ := B1.out.form
        clear B1
        go_wp2_with fail
        refine HRd.out.mono ?_
        rintro e w2 ⟨f2, v', n, g, o, rfl, hn, hN⟩
        have HE := Lib.hid (HRes.out w2 f2 v' n g o hn (fun h => absurd hd h) hN)
        clear f2 hN
        go_wp2
        go_ret
        exact HE.out
      · have hks := HKS.out
        rw [if_neg hd] at hks
        have HRd := Lib.hid (tread_inner (id := id) (by simpa using hks) HIN.out B1.out hl1 q2 HKV.out)
        obtain ⟨A, cc, rfl, -⟩ := B1.out.form
        clear B1 hks
        go_wp2_with fail
        refine HRd.out.mono ?_
        rintro e w2 ⟨f2, v', n, g, o, rfl, hn, hg, hN⟩
        have HE := Lib.hid (HRes.out w2 f2 v' n g o hn (fun _ => hg) hN)
        clear f2 hN
        go_wp2
        go_ret
        exact HE.out
    · rw [show pageOf (D.read id) = pgs D id from rfl, hp] at r1
      obtain rfl := r1
      go_wp2
      exact ⟨rfl, F1.out, .inl ⟨hX, rfl⟩⟩
end Go.Proofs.Ytcmicdcikechkaa
end
section
namespace Go.Proofs.Ytcmicdcikechkaa
open Go.RowKit Go.H
set_option maxHeartbeats 400000
set_option maxRecDepth 100000
theorem cmp_run {F : Nat → Prop} {w : World} {u v : Value} {a b : List UInt8} (ha : BytesAt F w u a) (hb : BytesAt F w v b) : (callFunc 100 #[u, v]).run Try.prog w = .ok (.value (.int .i64 (bcmp a b))) w := by
  rw [run_callFunc_extern (e := Extern.BytealgCompare.compare) Try.func100 (by kernel_rfl) rfl (by kernel_rfl) (by kernel_rfl), compare_run ha hb, Result.andThen_ok]
theorem cmp_calls {F : Nat → Prop} {w : World} {u v : Value} {a b : List UInt8} (ha : BytesAt F w u a) (hb : BytesAt F w v b) :
    Calls Try.prog 83 #[u, v] w fun e w' => e = .returned (.int .i64 (bcmp a b)) ∧ w = w' := by
  have hx := cmp_run ha hb
  go_enter Try.func83, Try.ntmps83
  go_wp2
  go_ret
  exact ⟨rfl, rfl⟩
theorem find_calls {F : Nat → Prop} {w : World} {u v : Value} {l : List KV} {key : List UInt8} (hl : ItemsAt F w u l) (hk : BytesAt F w v key) :
    Calls Try.prog 54 #[u, v] w fun e w' => e = .returned (.tuple #[.int .i64 (findL key l).1, .bool (findL key l).2]) ∧ Fr C0 w w' := by
  have HL := Lib.hid hl
  obtain ⟨A, c, rfl, h1, h2, h3⟩ := hl
  have hm : l.length ≤ 9223372036854775807 := by unfold maxLen at h2; omega
  have H3 := Lib.hid h3
  clear h1 h2 h3
  have HK := Lib.hid hk; clear hk
  go_enter Try.func54, Try.ntmps54
  go_wp2
  go_loopw [4, 5, 6, 7, 8, 11] (fun a b _ _ _ i wr => ∃ k : Nat, k ≤ l.length ∧ a = .int .i64 0 ∧ b = .bool false ∧ i = .int .i64 k ∧ Hid (Fr C0 w wr) ∧ Hid (AllGt key l k)) (fun _ _ _ _ _ i _ => l.length - (intOf i).toNat)
  case atStart => exact ⟨0, Nat.zero_le _, rfl, rfl, rfl, Fr.refl _ _, fun j hj h => absurd h (by omega)⟩
  case round =>
    obtain ⟨k, hk, rfl, rfl, rfl, HF, HA⟩ := hrel
    by_cases hlt : k < l.length
    · obtain ⟨g, o, rfl, hFg, hc⟩ := H3.out (by intro h; subst h; simp at hlt)
      obtain ⟨kv, vv, c1, c2, c3, c4⟩ := hc k hlt
      have d1 := HF.out.cell0 c1
      have d2 := HF.out.cell0 c2
      have hB := c3.fr0 HF.out
      obtain ⟨kA, kc, rfl, -⟩ := id c3
      obtain ⟨vA, vc, rfl, -⟩ := id c4
      clear c1 c2 hc H3 c3 c4
      have HB := Lib.hid hB; clear hB
      go_wp2_with fail
      have HW := Lib.hid ((Fr.refl C0 wr).alloc (.cells #[Value.slice kA l[k].fst.length kc, Value.slice vA l[k].snd.length vc] 62))
      refine (cmp_calls ((HK.out.fr0 HF.out).fr0 HW.out) (HB.out.fr0 HW.out)).mono ?_
      rintro e w' ⟨rfl, rfl⟩
      by_cases hle : bcmp key l[k].1 ≤ 0
      · go_wp2
        go_ret2
        exact ⟨by rw [findL_at key l k hlt HA.out hle]; rfl, HF.out.alloc _⟩
      · go_wp2
        go_roundw
        case rel => exact ⟨k + 1, by omega, rfl, rfl, by go_num, HF.out.alloc _, allGt_succ HA.out hlt (by omega)⟩
        case measure => simp [intOf]; omega
    · go_wp2
      go_ret2
      obtain rfl : k = l.length := by omega
      exact ⟨by rw [findL_end key l HA.out]; rfl, HF.out⟩
end Go.Proofs.Ytcmicdcikechkaa
end
section
namespace Go.H
theorem interT_sub : ∀ {l : List KV} {fs : List (List KV)}, fs.length = l.length → l.Sublist (interT l fs)
  | [], _, _ => List.nil_sublist _
  | x :: l, [], h => by simp at h
  | x :: l, f :: fs, h => by
    simp only [interT, List.cons_append]
    exact (List.Sublist.trans (interT_sub (l := l) (fs := fs) (by simpa using h)) (List.sublist_append_right f _)).cons_cons x
theorem inter_sub {l : List KV} {fs : List (List KV)} (h : fs.length = l.length + 1) : l.Sublist (inter l fs) := by
  cases fs with
  | nil => simp at h
  | cons f fs => exact List.Sublist.trans (interT_sub (by simpa using h)) (List.sublist_append_right f _)
theorem cutAt {α : Type} {l : List α} {i : Nat} (h : i < l.length) : ∃ a x b, l = a ++ x :: b ∧ a.length = i ∧ l[i] = x :=
  ⟨l.take i, l[i], l.drop (i + 1), by rw [← List.drop_eq_getElem_cons h, List.take_append_drop], by simp; omega, rfl⟩
theorem klt_of_mem {L R : List KV} {y : KV} (h : Sorted (L ++ y :: R)) : ∀ z ∈ L, klt z y := fun z hz => (List.pairwise_append.1 h).2.2 z hz y (by simp)
theorem gt_of_klt {z : KV} {k : List UInt8} {y : KV} (h : klt z y) (e : bcmp k y.1 = 0) : 0 < bcmp k z.1 := by
  rw [bcmp_zero e, bcmp_swap]; unfold klt at h; omega
theorem lt_of_klt {z : KV} {k : List UInt8} {y : KV} (h : klt y z) (e : bcmp k y.1 = 0) : bcmp k z.1 < 0 := by
  rw [bcmp_zero e]; exact h
theorem node_at (k : List UInt8) {l : List KV} {fs : List (List KV)} (h : fs.length = l.length + 1) (hs : Sorted (inter l fs)) :
    ∃ A B f1 f f2, l = A ++ B ∧ fs = f1 ++ f :: f2 ∧ f1.length = A.length ∧ f2.length = B.length ∧ (findL k l).1 = A.length ∧ inter l fs = interH A f1 ++ (f ++ interT B f2) ∧
      (∀ y ∈ A, 0 < bcmp k y.1) ∧
      (((findL k l).2 = true ∧ ∃ y R f' f2', B = y :: R ∧ f2 = f' :: f2' ∧ bcmp k y.1 = 0 ∧ (∀ z ∈ interH A f1 ++ f, 0 < bcmp k z.1) ∧ ∀ z ∈ f' ++ interT R f2', bcmp k z.1 < 0) ∨
       ((findL k l).2 = false ∧ (∀ z ∈ interH A f1, 0 < bcmp k z.1) ∧ ∀ z ∈ interT B f2, bcmp k z.1 < 0)) := by
  have hsl : Sorted l := hs.sublist (inter_sub h)
  obtain ⟨A, B, rfl, h1, h2, h3⟩ := findL_spec k hsl
  obtain ⟨f1, f, f2, rfl, hf1, _⟩ := cutAt (l := fs) (i := A.length) (by rw [h, List.length_append]; omega)
  have hf2 : f2.length = B.length := by simp at h; omega
  have he := inter_mid B f f2 (l1 := A) (f1 := f1) hf1
  rw [he] at hs
  refine ⟨A, B, f1, f, f2, rfl, rfl, hf1, hf2, h1, he, h2, ?_⟩
  rcases h3 with ⟨e, y, R, rfl, hy, hR⟩ | ⟨e, hB⟩
  · obtain ⟨f', f2', rfl⟩ : ∃ a b, f2 = a :: b := by cases f2 with | nil => simp at hf2 | cons a b => exact ⟨a, b, rfl⟩
    refine .inl ⟨e, y, R, f', f2', rfl, rfl, hy, ?_, ?_⟩
    · have : Sorted ((interH A f1 ++ f) ++ y :: (f' ++ interT R f2')) := by simpa [interT] using hs
      exact fun z hz => gt_of_klt (klt_of_mem this z hz) hy
    · have : Sorted ((interH A f1 ++ f) ++ y :: (f' ++ interT R f2')) := by simpa [interT] using hs
      exact fun z hz => lt_of_klt ((List.pairwise_cons.1 (List.pairwise_append.1 this).2.1).1 z hz) hy
  · have p := List.pairwise_append.1 hs
    exact .inr ⟨e, interH_gt hf1 p.1 h2, interT_lt (List.pairwise_append.1 p.2.1).2.1 hB⟩
theorem leaf_at (k : List UInt8) {l : List KV} (hs : Sorted l) :
    ∃ A B, l = A ++ B ∧ (findL k l).1 = A.length ∧ (∀ y ∈ A, 0 < bcmp k y.1) ∧
      (((findL k l).2 = true ∧ ∃ y R, B = y :: R ∧ bcmp k y.1 = 0 ∧ ∀ z ∈ R, bcmp k z.1 < 0) ∨ ((findL k l).2 = false ∧ ∀ z ∈ B, bcmp k z.1 < 0)) := findL_spec k hs
theorem leaf_get {k : List UInt8} {l : List KV} (hs : Sorted l) :
    if (findL k l).2 then ∃ h : (findL k l).1 < l.length, getL k l = some l[(findL k l).1].2 else getL k l = none := by
  obtain ⟨A, B, rfl, h1, h2, ⟨e, y, R, rfl, hy, hR⟩ | ⟨e, hB⟩⟩ := leaf_at k hs
  · rw [e, if_pos rfl, h1]
    refine ⟨by simp, ?_⟩
    rw [getL_front h2, getL_hit hy]; simp
  · rw [e]
    simp only [Bool.false_eq_true, if_false]
    rw [getL_front h2, getL_none hB]
theorem node_get {k : List UInt8} {l : List KV} {fs : List (List KV)} (h : fs.length = l.length + 1) (hs : Sorted (inter l fs)) :
    if (findL k l).2 then ∃ h : (findL k l).1 < l.length, getL k (inter l fs) = some l[(findL k l).1].2
    else ∃ h : (findL k l).1 < fs.length, getL k (inter l fs) = getL k fs[(findL k l).1] ∧ Sorted fs[(findL k l).1] := by
  obtain ⟨A, B, f1, f, f2, rfl, rfl, hf1, hf2, h1, he, h2, ⟨e, y, R, f', f2', rfl, rfl, hy, hL, hR⟩ | ⟨e, hA, hB⟩⟩ := node_at k h hs
  · rw [e, if_pos rfl, h1]
    refine ⟨by simp, ?_⟩
    rw [he, show interT (y :: R) (f' :: f2') = y :: (f' ++ interT R f2') from rfl, ← List.append_assoc, getL_front hL, getL_hit hy]
    simp
  · rw [e]
    simp only [Bool.false_eq_true, if_false, h1]
    refine ⟨by simp; omega, ?_, ?_⟩
    · rw [he, getL_front hA, getL_back hB]
      simp [← hf1]
    · rw [he] at hs
      have := (List.pairwise_append.1 (List.pairwise_append.1 hs).2.1).1
      simpa [← hf1] using this
end Go.H
end
section
namespace Go.Proofs.Ytcmicdcikechkaa
open Go.RowKit Go.H
set_option maxHeartbeats 1000000
set_option maxRecDepth 100000
theorem Loaded.iface {c : Nat → Nat} {rn : Nat} {w : World} {pg : Nat → Option Bs} {N : Nat} {X : Prop} {d : Nat} {t : T} {n g o : Nat} {kvs : List Value} {v : Value} (h : Loaded c rn w pg N X d t n g o kvs v) : v = wLeaf n ∨ v = wInner n := by
  obtain ⟨⟨lv, _, _, _, h3⟩, _⟩ := h
  rcases h3 with ⟨_, h⟩ | ⟨_, h, _⟩
  · exact .inl h
  · exact .inr h
theorem Rep.iface {c : Nat → Nat} {rn : Nat} {w : World} {pg : Nat → Option Bs} {N : Nat} {X : Prop} {d : Nat} {t : T} {v : Value} (h : Rep c rn w pg N X d t v) : ∃ tx y, v = .iface tx y := h.num.iface
def GetT (w w' : World) (X : Prop) (e : Ending) (o : Option Bs) : Prop :=
  Fr C0 w w' ∧ ((X ∧ e = corrupt) ∨ match o with
    | some b => ∃ v, e = .returned (.tuple #[v, .bool true]) ∧ BytesAt (fun b => w.heap.size ≤ b) w' v b
    | none => e = .returned (.tuple #[.slice none 0 0, .bool false]))
theorem tget_none {w : World} {tp : Nat} {kv : Value} : Calls Try.prog 49 #[.pointer (some ⟨tp, 0, none⟩), .nilIface, kv] w fun e w' => e = .returned (.tuple #[.slice none 0 0, .bool false]) ∧ w = w' := by
  go_enter Try.func49, Try.ntmps49
  go_wp2
  refine wp_loop_rounds 1 ?_; rw [rounds_succ]
  go_wp2
  go_ret2
  exact ⟨rfl, rfl⟩
theorem tget_calls {F : Nat → Prop} {c : Nat → Nat} {r rn : Nat} {w : World} {tp st : Nat} {S : SSt} {D : DSt} {X : Prop} {d m : Nat} {t : T} {v kv : Value} {key : Bs} (h : Hd c r w tp st S D) (hc : Cl w c) (hr : Rep c rn w (pgs D) D.blocks X d t v) (hs : Shape d m t) (hm : 1 ≤ m) (ho : Sorted (flat d t)) (hk : BytesAt F w kv key) :
    Calls Try.prog 49 #[.pointer (some ⟨tp, 0, none⟩), v, kv] w fun e w' => GetT w w' X e (getL key (flat d t)) := by
  have HK := Lib.hid hk
  have HH := Lib.hid h
  have HC := Lib.hid hc
  have HR := Lib.hid hr
  have HS := Lib.hid (show Shape d 1 t from hs.mono hm)
  have HO := Lib.hid ho
  obtain ⟨A, cc, rfl, -⟩ := hk.form
  clear h hc hr hs ho hk
  go_enter Try.func49, Try.ntmps49
  go_wp2
  go_loopg [1, 6, 7] d (fun k v' s6 s7 wr => s6 = .slice none 0 0 ∧ s7 = .bool false ∧ Hid (Fr C0 w wr) ∧ ∃ t', Hid (Rep c rn wr (pgs D) D.blocks X k t' v') ∧ Hid (Shape k 1 t') ∧ Hid (Sorted (flat k t')) ∧ Hid (getL key (flat k t') = getL key (flat d t)))
  case atStart => exact ⟨rfl, rfl, Lib.hid (Fr.refl _ _), t, HR, HS, HO, Lib.hid rfl⟩
  case round =>
    obtain ⟨rfl, rfl, HF, t', HR', HS', HO', HE⟩ := hrel
    cases gk with
    | zero => exact HR'.out.elim
    | succ k =>
      have HL := Lib.hid (load_calls (HH.out.fr0 HF.out) (HC.out.mono HF.out.size) HR'.out HS'.out (Nat.le_refl _))
      obtain ⟨tx, y, rfl⟩ := HR'.out.iface
      go_wp2_with fail
      refine HL.out.mono ?_
      rintro e w1 ⟨f1, h1⟩
      have F1 := Lib.hid (HF.out.trans0 f1)
      rcases h1 with ⟨hX, rfl⟩ | ⟨v1, n, g, o, kvs, rfl, hl, _⟩
      · go_wp2
        exact ⟨rfl, F1.out, .inl ⟨hX, rfl⟩⟩
      · have HSZ := Lib.hid F1.out.size
        obtain ⟨nm, l, ks⟩ := t'
        have hif := hl.iface
        obtain ⟨hN0, _, _, hks0⟩ := hl
        have hN : NodeAt (Dt c) w1 n g o (T.node nm l ks).id l kvs v1 := hN0
        have hks : All2 (Rep c rn w1 (pgs D) D.blocks X k) ks kvs := hks0
        clear hN0 hks0
        have HN := Lib.hid hN
        have HKS := Lib.hid hks
        have hkl := All2.length hks
        obtain ⟨lv, hlv, hit⟩ := items_calls hN
        have HIT := Lib.hid hit
        have HLV := Lib.hid hlv
        have HFI := Lib.hid (find_calls (hlv.mono (F' := fun _ => True) (fun _ _ _ => trivial)) ((HK.out.fr0 F1.out).mono (F' := fun _ => True) (fun _ _ _ => trivial)))
        obtain ⟨q1, q2, q3, q4⟩ := HS'.out
        have hlen : l.length ≤ 4 := q2
        have HQ4 := Lib.hid q4
        have HKV := Lib.hid q3
        have HFS : Hid (if k = 0 then flat (k + 1) (.node nm l ks) = l else flat (k + 1) (.node nm l ks) = inter l (ks.map (flat k))) := by
          refine Lib.hid ?_
          split <;> rename_i hk0 <;> simp [flat, hk0]
        clear hlv hit hN hks q1 q2 q3 q4
        obtain ⟨A1, c1, rfl, hc1, hc2, hc3⟩ := HLV.out
        unfold maxLen at hc2
        have HC3 := Lib.hid hc3
        clear hc3
        obtain ⟨lv2, _, _, _, h3⟩ := HN.out
        have hso := HO'.out
        have hge := HE.out
        rcases h3 with ⟨rfl, rfl⟩ | ⟨hne, rfl, kc, k0, k1, k2, k3⟩
        · have hks0 : ks = [] := by simpa using hkl
          have hk0 : k = 0 := by
            have := HQ4.out
            split at this
            · assumption
            · rw [hks0] at this; simp at this
          have hfl := HFS.out
          rw [if_pos hk0] at hfl
          rw [hfl] at hso hge
          have hgl := leaf_get (k := key) hso
          have HGE := Lib.hid hge.symm
          clear hso hge
          generalize hfk : findL key l = fk at *
          obtain ⟨i, there⟩ := fk
          go_wp2_with fail
          refine (HIT.out _ (Fr.refl _ _)).mono ?_
          rintro e w2 ⟨rfl, rfl⟩
          go_wp2_with fail
          refine HFI.out.mono ?_
          rintro e w2 ⟨rfl, f2⟩
          have F2 := Lib.hid (F1.out.trans0 f2)
          have F12 := Lib.hid f2
          clear f2
          cases there with
          | true =>
            simp only [if_true] at hgl
            obtain ⟨hi, hgv⟩ := hgl
            obtain ⟨g1, o1, rfl, _, hcc⟩ := HC3.out (by intro h; subst h; simp at hi)
            obtain ⟨kv, vv, _, d2, _, d4⟩ := hcc i hi
            have d2' := F12.out.cell0 d2
            have HV := Lib.hid (d4.fr0 F12.out)
            have HGV := Lib.hid hgv
            obtain ⟨A3, c3, rfl, -⟩ := (show _ from d4).form
            have hsz2 := F2.out.size
            clear hcc d2 d4 hgv
            have hkv := (HKV.out _ (List.getElem_mem hi)).2.2
            go_wp2_with (at_builtin; go_must (refine wpl_app sl_u8 rfl _ _ rfl (v := .slice none 0 0) (xv := .slice A3 l[i].2.length c3) rfl rfl (B := w.heap.size) (World.ownsRow_nil _ _ _ _) HV.out.row (oneCell_bv _) (by unfold maxLen; omega) (by omega) (by omega) ?_); intro v5 w5 o5 f5 k5 nil5)
            go_ret2
            refine ⟨F2.out.trans f5 (fun b _ h => by simp [Value.ownBlock] at h), .inr ?_⟩
            rw [HGE.out, HGV.out]
            refine ⟨v5, rfl, BytesAt.ofOwn (by simpa using o5) (fun b e => (o5.lt b e).1)⟩
          | false =>
            simp only [Bool.false_eq_true, if_false] at hgl
            have HGV := Lib.hid hgl
            clear hgl
            go_wp2
            go_ret2
            exact ⟨F2.out, .inr (by rw [HGE.out, HGV.out]; rfl)⟩
        · have hks0 : ks ≠ [] := fun e => hne (by rw [e] at hkl; exact List.eq_nil_of_length_eq_zero hkl.symm)
          have hq : ¬ k = 0 ∧ ks.length = l.length + 1 ∧ ∀ x ∈ ks, Shape k 2 x := by
            have := HQ4.out
            split at this
            · exact absurd this hks0
            · exact ⟨by assumption, this⟩
          obtain ⟨hk0, hkn, hksh⟩ := hq
          have hfl := HFS.out
          rw [if_neg hk0] at hfl
          rw [hfl] at hso hge
          have hgl := node_get (k := key) (by simpa using hkn) hso
          have HGE := Lib.hid hge.symm
          have HSH := Lib.hid hksh
          have HK3 := Lib.hid k3
          have hknv : kvs.length = l.length + 1 := by omega
          clear hso hge hksh k3 hfl
          generalize hfk : findL key l = fk at *
          obtain ⟨i, there⟩ := fk
          go_wp2_with fail
          refine (HIT.out _ (Fr.refl _ _)).mono ?_
          rintro e w2 ⟨rfl, rfl⟩
          go_wp2_with fail
          refine HFI.out.mono ?_
          rintro e w2 ⟨rfl, f2⟩
          have F2 := Lib.hid (F1.out.trans0 f2)
          have F12 := Lib.hid f2
          clear f2
          cases there with
          | true =>
            simp only [if_true] at hgl
            obtain ⟨hi, hgv⟩ := hgl
            obtain ⟨g1, o1, rfl, _, hcc⟩ := HC3.out (by intro h; subst h; simp at hi)
            obtain ⟨kv, vv, _, d2, _, d4⟩ := hcc i hi
            have d2' := F12.out.cell0 d2
            have HV := Lib.hid (d4.fr0 F12.out)
            have HGV := Lib.hid hgv
            obtain ⟨A3, c3, rfl, -⟩ := (show _ from d4).form
            have hsz2 := F2.out.size
            clear hcc d2 d4 hgv
            have hkv := (HKV.out _ (List.getElem_mem hi)).2.2
            go_wp2_with (at_builtin; go_must (refine wpl_app sl_u8 rfl _ _ rfl (v := .slice none 0 0) (xv := .slice A3 l[i].2.length c3) rfl rfl (B := w.heap.size) (World.ownsRow_nil _ _ _ _) HV.out.row (oneCell_bv _) (by unfold maxLen; omega) (by omega) (by omega) ?_); intro v5 w5 o5 f5 k5 nil5)
            go_ret2
            refine ⟨F2.out.trans f5 (fun b _ h => by simp [Value.ownBlock] at h), .inr ?_⟩
            rw [HGE.out, HGV.out]
            refine ⟨v5, rfl, BytesAt.ofOwn (by simpa using o5) (fun b e => (o5.lt b e).1)⟩
          | false =>
            simp only [Bool.false_eq_true, if_false, List.length_map] at hgl
            obtain ⟨hi, hgv, hso2⟩ := hgl
            rw [List.getElem_map] at hgv hso2
            have HGV := Lib.hid hgv
            have HSO2 := Lib.hid hso2
            have hiv : i < kvs.length := by omega
            have HRK := Lib.hid ((All2.get i hi hiv HKS.out).fr0 F12.out)
            have k1' := F12.out.cell0 k0
            have k3' := F12.out.cell0 (HK3.out i kvs[i] (List.getElem?_eq_getElem _))
            rw [hknv] at k1'
            have hil : i ≤ l.length := by omega
            clear hgv hso2 k0
            go_wp2
            go_roundg k
            case measure => omega
            case rel =>
              exact ⟨rfl, rfl, F2, ks[i], HRK, Lib.hid ((HSH.out _ (List.getElem_mem hi)).mono (by omega)), HSO2, Lib.hid (by rw [HGE.out, HGV.out])⟩
end Go.Proofs.Ytcmicdcikechkaa
end
