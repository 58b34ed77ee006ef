/- TreeOrders returns true for every input, and leaves what came in as it was. No condition. -/
import Derived.Test.YtcmicdcikechkaaOrders34
import Derived.Test.YtcmicdcikechkaaOrders42
import Derived.Test.YtcmicdcikechkaaOrders43
import Derived.Test.YtcmicdcikechkaaOrders33
import Derived.Deep.Grids
set_option linter.all false
section
namespace Go.H
theorem klt_irrefl {a : KV} (h : klt a a) : False := by unfold klt at h; rw [bcmp_self] at h; omega
theorem mem_putL {x z : KV} : ∀ {l : List KV}, Sorted l → (z ∈ putL x l ↔ z = x ∨ (z ∈ l ∧ bcmp x.1 z.1 ≠ 0))
  | [], _ => by simp [putL]
  | y :: l, h => by
    have h1 := List.pairwise_cons.1 h
    have ih := mem_putL (x := x) (z := z) h1.2
    unfold putL
    split
    · rename_i h2
      have hl : ∀ a ∈ l, bcmp x.1 a.1 < 0 := fun a ha => bcmp_trans h2 (h1.1 a ha)
      simp only [List.mem_cons]
      constructor
      · rintro (rfl | rfl | hz)
        · exact .inl rfl
        · exact .inr ⟨.inl rfl, by omega⟩
        · exact .inr ⟨.inr hz, by have := hl z hz; omega⟩
      · rintro (rfl | ⟨rfl | hz, _⟩)
        · exact .inl rfl
        · exact .inr (.inl rfl)
        · exact .inr (.inr hz)
    · split
      · rename_i h2 h3
        have e := bcmp_zero h3
        simp only [List.mem_cons]
        constructor
        · rintro (rfl | hz)
          · exact .inl rfl
          · exact .inr ⟨.inr hz, by have := h1.1 z hz; unfold klt at this; rw [← e] at this; omega⟩
        · rintro (rfl | ⟨rfl | hz, hne⟩)
          · exact .inl rfl
          · exact absurd h3 hne
          · exact .inr hz
      · rename_i h2 h3
        simp only [List.mem_cons, ih]
        constructor
        · rintro (rfl | rfl | ⟨hz, hne⟩)
          · exact .inr ⟨.inl rfl, h3⟩
          · exact .inl rfl
          · exact .inr ⟨.inr hz, hne⟩
        · rintro (rfl | ⟨rfl | hz, hne⟩)
          · exact .inr (.inl rfl)
          · exact .inl rfl
          · exact .inr (.inr ⟨hz, hne⟩)
theorem sorted_ext : ∀ {l m : List KV}, Sorted l → Sorted m → (∀ z, z ∈ l ↔ z ∈ m) → l = m
  | [], [], _, _, _ => rfl
  | [], y :: m, _, _, h => by have := (h y).2 (by simp); simp at this
  | x :: l, [], _, _, h => by have := (h x).1 (by simp); simp at this
  | x :: l, y :: m, hl, hm, h => by
    have h1 := List.pairwise_cons.1 hl
    have h2 := List.pairwise_cons.1 hm
    have e : x = y := by
      rcases List.mem_cons.1 ((h x).1 (by simp)) with e | e
      · exact e
      · rcases List.mem_cons.1 ((h y).2 (by simp)) with e2 | e2
        · exact e2.symm
        · exact (klt_irrefl (klt_trans (h1.1 y e2) (h2.1 x e))).elim
    subst e
    rw [sorted_ext h1.2 h2.2 fun z => ⟨fun hz => ?_, fun hz => ?_⟩]
    · rcases List.mem_cons.1 ((h z).1 (List.mem_cons_of_mem _ hz)) with e | e
      · subst e; exact (klt_irrefl (h1.1 z hz)).elim
      · exact e
    · rcases List.mem_cons.1 ((h z).2 (List.mem_cons_of_mem _ hz)) with e | e
      · subst e; exact (klt_irrefl (h2.1 z hz)).elim
      · exact e
def ordL (x : List UInt8) (l : List KV) : List KV := if x = [] then l else putL (x, x) l
theorem mem_ordL {x : List UInt8} {l : List KV} {z : KV} (hs : Sorted l) (he : ∀ z ∈ l, z.2 = z.1) : z ∈ ordL x l ↔ (x ≠ [] ∧ z = (x, x)) ∨ z ∈ l := by
  unfold ordL
  split
  · rename_i h; simp [h]
  · rename_i h
    rw [mem_putL hs]
    constructor
    · rintro (rfl | ⟨hz, _⟩)
      · exact .inl ⟨h, rfl⟩
      · exact .inr hz
    · rintro (⟨_, rfl⟩ | hz)
      · exact .inl rfl
      · by_cases hb : bcmp x z.1 = 0
        · have e := bcmp_zero hb
          have e2 := he z hz
          left
          obtain ⟨a, b⟩ := z
          simp at e e2
          rw [e2, ← e]
        · exact .inr ⟨hz, hb⟩
theorem putL_sorted' {x : KV} {l : List KV} (h : Sorted l) : Sorted (putL x l) := by
  have key : ∀ {l : List KV} {y : KV}, klt y x → (∀ z ∈ l, klt y z) → Sorted l → ∀ z ∈ putL x l, klt y z := fun {l y} h hl hs z hz => by
    rcases (mem_putL hs).1 hz with rfl | ⟨hz, _⟩
    · exact h
    · exact hl z hz
  induction l with
  | nil => simp [putL, Sorted]
  | cons y l ih =>
    have h1 := List.pairwise_cons.1 h
    unfold putL
    split
    · rename_i h2
      exact List.pairwise_cons.2 ⟨fun z hz => by
        rcases List.mem_cons.1 hz with rfl | hz
        · exact h2
        · exact bcmp_trans h2 (h1.1 z hz), h⟩
    · split
      · rename_i h2
        have e := bcmp_zero h2
        refine List.pairwise_cons.2 ⟨fun z hz => ?_, h1.2⟩
        have := h1.1 z hz
        unfold klt at this ⊢
        rw [e]; exact this
      · rename_i h2 h3
        refine List.pairwise_cons.2 ⟨key ?_ h1.1 h1.2, ih h1.2⟩
        have := bcmp_swap x.1 y.1
        unfold klt; omega
def foldO (ks : List (List UInt8)) : List KV := ks.foldl (fun l x => ordL x l) []
theorem foldO_snoc (ks : List (List UInt8)) (x : List UInt8) : foldO (ks ++ [x]) = ordL x (foldO ks) := by simp [foldO]
theorem foldO_spec (ks : List (List UInt8)) : Sorted (foldO ks) ∧ ∀ z, z ∈ foldO ks ↔ ∃ x ∈ ks, x ≠ [] ∧ z = (x, x) := by
  have key : ∀ n, ∀ ks : List (List UInt8), ks.length = n → Sorted (foldO ks) ∧ ∀ z, z ∈ foldO ks ↔ ∃ x ∈ ks, x ≠ [] ∧ z = (x, x) := by
    intro n
    induction n with
    | zero => intro ks h; obtain rfl := List.length_eq_zero_iff.1 h; exact ⟨.nil, by simp [foldO]⟩
    | succ n ih =>
      intro ks h
      have hne : ks ≠ [] := by rintro rfl; simp at h
      rw [← List.dropLast_concat_getLast hne, foldO_snoc]
      obtain ⟨h1, h2⟩ := ih ks.dropLast (by simp [h])
      have he : ∀ z ∈ foldO ks.dropLast, z.2 = z.1 := fun z hz => by obtain ⟨x, _, _, rfl⟩ := (h2 z).1 hz; rfl
      refine ⟨?_, fun z => ?_⟩
      · unfold ordL; split
        · exact h1
        · exact putL_sorted' h1
      · rw [mem_ordL h1 he, h2]
        simp only [List.mem_append, List.mem_singleton]
        constructor
        · rintro (⟨ha, rfl⟩ | ⟨x, hx, hne, rfl⟩)
          · exact ⟨_, .inr rfl, ha, rfl⟩
          · exact ⟨x, .inl hx, hne, rfl⟩
        · rintro ⟨x, hx | rfl, hne, rfl⟩
          · exact .inr ⟨x, hx, hne, rfl⟩
          · exact .inl ⟨hne, rfl⟩
  exact key _ ks rfl
theorem foldO_ext {ks ks' : List (List UInt8)} (h : ∀ x, x ∈ ks ↔ x ∈ ks') : foldO ks = foldO ks' := by
  have a := foldO_spec ks
  have b := foldO_spec ks'
  exact sorted_ext a.1 b.1 fun z => by rw [a.2, b.2]; simp [h]
theorem foldO_rev (ks : List (List UInt8)) : foldO ks.reverse = foldO ks := foldO_ext (by simp)
theorem foldO_take {ks : List (List UInt8)} {k : Nat} (h : k < ks.length) : foldO (ks.take (k + 1)) = ordL ks[k] (foldO (ks.take k)) := by
  rw [List.take_succ_eq_append_getElem h, foldO_snoc]
theorem foldO_take_rev {ks : List (List UInt8)} {k : Nat} (h : k < ks.length) : foldO (ks.reverse.take (k + 1)) = ordL (ks[ks.length - 1 - k]'(by omega)) (foldO (ks.reverse.take k)) := by
  have := foldO_take (ks := ks.reverse) (k := k) (by simpa using h)
  rw [this]
  congr 1
  rw [List.getElem_reverse]
end Go.H
end
section
namespace Go.Proofs.Ytcmicdcikechkaa
open Go.RowKit Go.H
set_option maxHeartbeats 2000000
set_option maxRecDepth 100000
theorem TreeAt.moveC {C : Nat → Prop} {c c' : Nat → Nat} {r rn rm : Nat} {w w' : World} {tp : Nat} {Z : TSt} {k : Nat} (h : TreeAt c r rn rm w tp Z k) (hf : Fr C w w') (ha : Ag w.heap.size c c') (hc : Cl w' c') (h0 : ∀ b, C b → c' b ≠ 0) (h1 : ∀ b, C b → c' b ≠ r) (h2 : ∀ b, C b → c' b ≠ rn) (h3 : ∀ b, C b → c' b ≠ rm) : TreeAt c' r rn rm w' tp Z k := by
  obtain ⟨st, lm, km, nr, lr, gv, ov, sn, h⟩ := h
  have hgo : ∀ b, gv.ownBlock = some b → c' b = r := fun b hb => (ha b (h.gr.lt b hb).2).trans (h.go b hb)
  have hoo : ∀ b, ov.ownBlock = some b → c' b = rm := fun b hb => (ha b (h.orow.lt b hb).2).trans (h.oo b hb)
  have hlm : c' lm = rm := (ha _ h.live.lt).trans h.lmo
  have hkm : c' km = rm := (ha _ h.kept.lt).trans h.kmo
  have hhd := h.hd.ag ha
  exact ⟨st, lm, km, nr, lr, gv, ov, sn, hhd.fr hf h1 h0, hc, hf.blk h.blk (fun e => h1 _ e hhd.own), own_kept h.gr hf (fun b hb e => h1 b e (hgo b hb)), hgo, own_kept h.orow hf (fun b hb e => h3 b e (hoo b hb)), hoo, h.live.fr hf (fun e => h3 _ e hlm), hlm, h.kept.fr hf (fun e => h3 _ e hkm), hkm, h.lk, (h.now.ag ha).fr hf h2 h0, (h.last.ag ha).fr hf h2 h0, h.bk⟩
structure Fits (k : Nat) (Z : TSt) : Prop where
  num : Z.S.num ≤ k
  now : (rootL Z.now).length ≤ k
  last : (rootL Z.last).length ≤ k
  pages : Z.S.pages = 898
theorem Fits.le {k k' : Nat} {Z : TSt} (h : Fits k Z) (hk : k ≤ k') : Fits k' Z := ⟨Nat.le_trans h.num hk, Nat.le_trans h.now hk, Nat.le_trans h.last hk, h.pages⟩
structure Two (w0 : World) (r r' tp tp' : Nat) (La Lb : List KV) (k : Nat) (w : World) : Prop where
  ex : ∃ c Z Z', Fr C0 w0 w ∧ Ag w0.heap.size (fun _ => 0) c ∧ TreeAt c r (r + 1) (r + 2) w tp Z 0 ∧ TreeAt c r' (r' + 1) (r' + 2) w tp' Z' 0 ∧ rootL Z.now = La ∧ rootL Z'.now = Lb ∧ Fits k Z ∧ Fits k Z'
variable {w0 w : World} {r r' tp tp' k : Nat} {La Lb : List KV}
theorem Two.swap (h : Two w0 r r' tp tp' La Lb k w) : Two w0 r' r tp' tp Lb La k w := by
  obtain ⟨c, Z, Z', a, b, d, e, f, g, i, j⟩ := h
  exact ⟨c, Z', Z, a, b, e, d, g, f, j, i⟩
theorem Two.le {k' : Nat} (h : Two w0 r r' tp tp' La Lb k w) (hk : k ≤ k') : Two w0 r r' tp tp' La Lb k' w := by
  obtain ⟨c, Z, Z', a, b, d, e, f, g, i, j⟩ := h
  exact ⟨c, Z, Z', a, b, d, e, f, g, i.le hk, j.le hk⟩
theorem Two.fr0 {w' : World} (h : Two w0 r r' tp tp' La Lb k w) (hf : Fr C0 w w') : Two w0 r r' tp tp' La Lb k w' := by
  obtain ⟨c, Z, Z', a, b, d, e, f, g, i, j⟩ := h
  exact ⟨c, Z, Z', a.trans0 hf, b, d.fr0 hf, e.fr0 hf, f, g, i, j⟩
theorem Two.fr (h : Two w0 r r' tp tp' La Lb k w) : Fr C0 w0 w := by
  obtain ⟨c, Z, Z', a, _⟩ := h
  exact a
def OX (r r' : Nat) : Prop := 1 ≤ r ∧ 1 ≤ r' ∧ (r + 3 ≤ r' ∨ r' + 3 ≤ r)
theorem OX.swap {r r' : Nat} (h : OX r r') : OX r' r := ⟨h.2.1, h.1, h.2.2.symm⟩
theorem OX.own {r r' : Nat} (h : OX r r') : Owners r (r + 1) (r + 2) := by
  have := h.1
  exact ⟨by omega, by omega, by omega, by omega, by omega, by omega⟩
theorem two_step {c c' : Nat → Nat} {w' : World} {Z' Z1 : TSt} (hx : OX r r') (a : Fr C0 w0 w) (b : Ag w0.heap.size (fun _ => 0) c) (hc : Cl w c) (e : TreeAt c r' (r' + 1) (r' + 2) w tp' Z' 0) (hf : Fr (fun b => c b = r ∨ c b = r + 1 ∨ c b = r + 2) w w') (ha : Ag w.heap.size c c') (ht : TreeAt c' r (r + 1) (r + 2) w' tp Z1 0) (hk : Fits k Z1) (hk' : Fits k Z') : Two w0 r r' tp tp' (rootL Z1.now) (rootL Z'.now) k w' := by
  have hX : ∀ b, (c b = r ∨ c b = r + 1 ∨ c b = r + 2) → r ≤ c' b ∧ c' b ≤ r + 2 := fun b e => by
    have hx1 := hx.1
    have hl : b < w.heap.size := by
      by_cases h : b < w.heap.size
      · exact h
      · have := hc b (by omega); omega
    rw [ha b hl]; omega
  have hs := a.size
  refine ⟨c', Z1, Z', a.trans hf (fun b' hb e => ?_), fun b' hb => (ha b' (by omega)).trans (b b' hb), ht, e.moveC hf ha ht.cl (fun b e => ?_) (fun b e => ?_) (fun b e => ?_) (fun b e => ?_), rfl, rfl, hk, hk'⟩
  · have := b b' hb
    have h1 := hx.1
    simp only [] at this
    omega
  all_goals
    have h1 := hX b e
    have h2 := hx
    unfold OX at h2
    omega
theorem two_in {c : Nat → Nat} {kv : Value} {x : Bs} (hk : BytesAt (fun _ => True) w0 kv x) (a : Fr C0 w0 w) (b : Ag w0.heap.size (fun _ => 0) c) : BytesAt (Dt c) w kv x := came_in hk (fun _ => rfl) a b
theorem two_put {kv : Value} {x : Bs} (hx : OX r r') (h : Two w0 r r' tp tp' La Lb k w) (hk : BytesAt (fun _ => True) w0 kv x) (hl : x.length ≤ 64) (hk3 : k ≤ 300) :
    Calls Try.prog 8 #[.pointer (some ⟨tp, 0, none⟩), kv, kv] w fun e w' => ∃ i : Int, e = .returned (.int .i64 i) ∧ Hid (Two w0 r r' tp tp' (ordL x La) Lb (k + 1) w') := by
  obtain ⟨c, Z, Z', a, b, d, e, rfl, rfl, i, j⟩ := h
  have hkc := two_in hk a b
  by_cases h0 : x = []
  · have hw : wrong x x ≠ 0 := by unfold wrong; rw [if_pos h0]; omega
    refine (wrong_at d hkc hkc hw).mono ?_
    rintro e' w' ⟨rfl, f⟩
    refine ⟨_, rfl, Lib.hid ?_⟩
    unfold ordL
    rw [if_pos h0]
    exact Two.le (Two.fr0 ⟨c, Z, Z', a, b, d, e, rfl, rfl, i, j⟩ f) (by omega)
  · have hw : wrong x x = 0 := by unfold wrong; rw [if_neg h0, if_neg (by omega)]
    have h1 := held_le d.bk d.shl
    have h2 := i.now
    have h3 := i.last
    have h4 := i.pages
    refine (put_room (x := (x, x)) hx.own d hkc hkc hw (by omega) (by omega)).mono ?_
    rintro e' w' ⟨rfl, f, c', o', g', ag, t, e1⟩
    refine ⟨0, rfl, Lib.hid ?_⟩
    unfold ordL
    rw [if_neg h0]
    have := two_step (k := k + 1) hx a b d.cl e f ag t ⟨by have := i.num; show Z.S.num ≤ _; omega, by show (rootL o').length ≤ _; rw [e1, putL_length d.bk.sn]; split <;> omega, by show (rootL Z.last).length ≤ _; omega, h4⟩ (j.le (by omega))
    rw [show rootL ({ Z with now := o', gone := g' } : TSt).now = putL (x, x) (rootL Z.now) from e1] at this
    exact this
theorem two_commit (hx : OX r r') (h : Two w0 r r' tp tp' La Lb k w) (hk3 : k ≤ 300) :
    Calls Try.prog 17 #[.pointer (some ⟨tp, 0, none⟩)] w fun e w' => e = .returned (.int .i64 0) ∧ Hid (Two w0 r r' tp tp' La Lb (k + 1) w') := by
  obtain ⟨c, Z, Z', a, b, d, e, rfl, rfl, i, j⟩ := h
  refine (commit_at hx.own d (by have := i.num; omega)).mono ?_
  rintro e' w' ⟨rfl, f, c', Z1, ag, t, e1, e2, -, -, e5, e6, -⟩
  refine ⟨rfl, Lib.hid ?_⟩
  have h2 := i.now
  have := two_step (k := k + 1) hx a b d.cl e f ag t ⟨by have := i.num; omega, by rw [e1]; omega, by rw [e2, e1]; omega, by rw [e5]; exact i.pages⟩ (j.le (by omega))
  rw [e1] at this
  exact this
theorem two_del {kv : Value} {x : Bs} (hx : OX r r') (h : Two w0 r r' tp tp' La Lb k w) (hk : BytesAt (fun _ => True) w0 kv x) (h0 : x ≠ []) (hl : x.length ≤ 64) (hk3 : k ≤ 300) :
    Calls Try.prog 21 #[.pointer (some ⟨tp, 0, none⟩), kv] w fun e w' => e = .returned (.tuple #[.bool (getL x La).isSome, .int .i64 0]) ∧ Hid (Two w0 r r' tp tp' (delL x La) Lb k w') := by
  obtain ⟨c, Z, Z', a, b, d, e, rfl, rfl, i, j⟩ := h
  have hkc := two_in hk a b
  have hw : wrong x [] = 0 := by unfold wrong; rw [if_neg h0, if_neg (by simp; omega)]
  have h1 := held_le d.bk d.shl
  have h2 := i.now
  have h3 := i.last
  have h4 := i.pages
  refine (del_at hx.own d hkc hw).mono ?_
  rintro e' w' (⟨hg, rfl, f⟩ | ⟨hg, ⟨rfl, f, o', e1, e2, e3, e4⟩ | ⟨rfl, f, c', o', g', ag, t, e1⟩⟩)
  · refine ⟨by rw [hg]; rfl, Lib.hid ?_⟩
    rw [delL_miss hg]
    exact Two.fr0 ⟨c, Z, Z', a, b, d, e, rfl, rfl, i, j⟩ f
  · have h5 := rootDirty_count e2
    have h6 := (delL_sub x (rootL Z.now)).length_le
    rw [e1] at h5
    omega
  · refine ⟨by cases hh : getL x (rootL Z.now) with | none => exact absurd hh hg | some _ => rfl, Lib.hid ?_⟩
    have h6 := (delL_sub x (rootL Z.now)).length_le
    have := two_step (k := k) hx a b d.cl e (f.mono (fun _ _ e => .inl e)) ag t ⟨i.num, by show (rootL o').length ≤ _; rw [e1]; omega, h3, h4⟩ j
    rw [show rootL ({ Z with now := o', gone := g' } : TSt).now = delL x (rootL Z.now) from e1] at this
    exact this
theorem two_range (hx : OX r r') (h : Two w0 r r' tp tp' La Lb k w) (hk3 : k ≤ 300) :
    Calls Try.prog 9 #[.pointer (some ⟨tp, 0, none⟩), .slice none 0 0, .slice none 0 0, .int .i64 999] w fun e w' => ∃ A cp, e = .returned (.tuple #[.slice A La.length cp, .int .i64 0]) ∧ Hid (Fr C0 w w' ∧ Two w0 r r' tp tp' La Lb k w' ∧ PairsAt (fun _ => True) w' (.slice A La.length cp) La) := by
  obtain ⟨c, Z, Z', a, b, d, e, rfl, rfl, i, j⟩ := h
  obtain ⟨q, hq1, hq2, hq3⟩ := own_many d.cl [r, r + 1, r + 2]
  refine (range_at (n := 999) hq2 (hq3 r (by simp)) (hq3 (r + 1) (by simp)) hq1 (by omega) d sl_nil sl_nil (by simp) (by simp)).mono ?_
  rintro e' w' ⟨f, v', c', rfl, ag, cl, o⟩
  have hl : (rangeL [] [] (rootL Z.now)).take 999 = rootL Z.now := by
    have := i.now
    rw [rangeL_all, List.take_of_length_le (by omega)]
  rw [hl] at o
  obtain ⟨A, cp, rfl, -⟩ := o.form
  exact ⟨A, cp, rfl, Lib.hid ⟨f, ⟨c', Z, Z', a.trans0 f, fun b' hb => (ag b' (by have := a.size; omega)).trans (b b' hb), d.move f ag cl, e.move f ag cl, rfl, rfl, i, j⟩, OutAt.pairs o (fun _ _ _ => trivial)⟩⟩
theorem two_len (h : Two w0 r r' tp tp' La Lb k w) : Calls Try.prog 22 #[.pointer (some ⟨tp, 0, none⟩)] w fun e w' => e = .returned (.int .i64 (La.length : Int)) ∧ w = w' := by
  obtain ⟨c, Z, Z', a, b, d, e, rfl, rfl, i, j⟩ := h
  exact len_at d
theorem two_check (hx : OX r r') (h : Two w0 r r' tp tp' La Lb k w) : Calls Try.prog 16 #[.pointer (some ⟨tp, 0, none⟩)] w fun e w' => e = .returned (.int .i64 0) ∧ Fr C0 w w' := by
  obtain ⟨c, Z, Z', a, b, d, e, rfl, rfl, i, j⟩ := h
  exact check_at hx.own d
theorem two_cl (h : Two w0 r r' tp tp' La Lb k w) : ∃ c, Cl w c := by
  obtain ⟨c, Z, Z', a, b, d, e, rfl, rfl, i, j⟩ := h
  exact ⟨c, d.cl⟩
end Go.Proofs.Ytcmicdcikechkaa
end
section
namespace Go.Proofs.Ytcmicdcikechkaa
open Go.RowKit Go.H
set_option maxHeartbeats 4000000
set_option maxRecDepth 100000
def BoolsAt (w : World) (v : Value) (gs : List Bool) : Prop := ∃ A c, v = .slice A gs.length c ∧ gs.length ≤ c ∧ c ≤ maxLen ∧ ∀ (i : Nat) (h : i < gs.length), ∃ g o, A = some ⟨g, o, none⟩ ∧ w.cell? ⟨g, o + i, none⟩ = some (.bool gs[i])
theorem orders_calls {w : World} {kv gv : Value} {ks : List Bs} {gs : List Bool} (hk : KeysAt w kv ks) (hg : BoolsAt w gv gs) :
    Calls Try.prog 6 #[kv, gv] w fun e w' => e = .returned (.bool true) ∧ Fr C0 w w' := by
  have hx : OX 1 4 := ⟨by omega, by omega, by omega⟩
  have HX := Lib.hid hx
  have HCL : Hid (Cl w (fun _ => 0)) := Lib.hid fun b _ => rfl
  have HOP := Lib.hid (lopen_calls (c := fun _ => 0) (n := 900) hx.own HCL.out (by omega) (by omega))
  obtain ⟨KA, kc, rfl, hk1, hk2, hk3⟩ := hk
  obtain ⟨GA, gc, rfl, hg1, hg2, hg3⟩ := hg
  have HK3 := Lib.hid hk3
  have HG3 := Lib.hid hg3
  unfold maxLen at hk2 hg2
  clear hk3 hg3 hx
  obtain ⟨n, hn50, hnl, hmin⟩ : ∃ n : Nat, n ≤ 50 ∧ n ≤ ks.length ∧ (if (50 : Int) < (ks.length : Int) then (50 : Int) else (ks.length : Int)) = (n : Int) := ⟨min ks.length 50, by omega, by omega, by split <;> omega⟩
  go_enter Try.func6, Try.ntmps6
  go_wp2_with fail
  refine HOP.out.mono ?_
  rintro e w1 ⟨tp, rfl, f1, c1, ag1, t1⟩
  have HOP2 := Lib.hid (lopen_calls (c := c1) (n := 900) HX.out.swap.own t1.cl (by omega) (by omega))
  have T1 := Lib.hid (And.intro f1 (And.intro ag1 t1))
  clear f1 ag1 t1 HOP
  go_wp2_with fail
  refine HOP2.out.mono ?_
  rintro e w2 ⟨tp', rfl, f2, c2, ag2, t2⟩
  have P2 : Hid (Two w 1 4 tp tp' (foldO []) (foldO []) 0 w2) := Lib.hid ⟨c2, _, _, T1.out.1.trans0 f2, fun b hb => (ag2 b (by have := T1.out.1.size; omega)).trans (T1.out.2.1 b hb), T1.out.2.2.move f2 ag2 t2.cl, t2, rfl, rfl, ⟨Nat.le_refl _, Nat.le_refl _, Nat.le_refl _, rfl⟩, ⟨Nat.le_refl _, Nat.le_refl _, Nat.le_refl _, rfl⟩⟩
  clear f2 ag2 t2 HOP2 T1
  obtain ⟨tks, htks⟩ : ∃ tks, tks = (ks.take n).map (fun x => x.take 64) := ⟨_, rfl⟩
  have htl : tks.length = n := by rw [htks]; simp; omega
  have HTK : Hid (∀ (j : Nat) (h : j < tks.length), tks[j] = (ks[j]'(by omega)).take 64) := Lib.hid (by subst htks; intro j h; simp)
  clear htks
  go_wp2_with fail
  go_loopw [10] (fun i wr => ∃ k : Nat, k ≤ n ∧ i = .int .i64 (k : Int) ∧ Hid (Two w 1 4 tp tp' (foldO (tks.take k)) (foldO (tks.reverse.take k)) (4 * k) wr)) (fun i _ => n - (intOf i).toNat)
  case atStart => exact ⟨0, by omega, rfl, P2⟩
  case round =>
    obtain ⟨k, hk, rfl, HP⟩ := hrel
    clear P2
    by_cases hlt : k < n
    · obtain ⟨j, hj⟩ : ∃ j, n = k + 1 + j := ⟨n - 1 - k, by omega⟩
      have hkl : k < ks.length := by omega
      have hjl : j < ks.length := by omega
      obtain ⟨g, o, kvk, hKA, hcell, hb⟩ := HK3.out k hkl
      obtain ⟨g2, o2, kvj, hKA2, hcell2, hb2⟩ := HK3.out j hjl
      subst hKA
      injection hKA2 with hKA2
      injection hKA2 with e1 e2 e3
      subst e1
      subst e2
      have hcw := HP.out.fr.cell0 hcell
      have hcw2 := HP.out.fr.cell0 hcell2
      obtain ⟨A1, n1, rfl, hn1, hn2⟩ := hb.form
      obtain ⟨A2, n2, rfl, hn3, hn4⟩ := hb2.form
      unfold maxLen at hn2 hn4
      have h1 : (k : Int) < (n : Int) := by omega
      have h2 : (k : Int) < (ks.length : Int) := by omega
      have h3 : (j : Int) < (ks.length : Int) := by omega
      obtain ⟨m, hm64, hml, hmm⟩ : ∃ m : Nat, m ≤ 64 ∧ m ≤ ks[k].length ∧ (if (64 : Int) < (ks[k].length : Int) then (64 : Int) else (ks[k].length : Int)) = (m : Int) := ⟨min ks[k].length 64, by omega, by omega, by split <;> omega⟩
      obtain ⟨m2, hm642, hml2, hmm2⟩ : ∃ m : Nat, m ≤ 64 ∧ m ≤ ks[j].length ∧ (if (64 : Int) < (ks[j].length : Int) then (64 : Int) else (ks[j].length : Int)) = (m : Int) := ⟨min ks[j].length 64, by omega, by omega, by split <;> omega⟩
      have hmc : (m : Int) ≤ (n1 : Int) := by omega
      have hmc2 : (m2 : Int) ≤ (n2 : Int) := by omega
      have HKB := Lib.hid (hb.take hml)
      have HKB2 := Lib.hid (hb2.take hml2)
      have HKL : Hid ((ks[k].take m).length = m) := Lib.hid (by rw [List.length_take]; omega)
      have HKL2 : Hid ((ks[j].take m2).length = m2) := Lib.hid (by rw [List.length_take]; omega)
      have hw1 : IntKind.i64.wrap ((n : Int) - 1) = (n : Int) - 1 := wraps_i64 _ (by omega) (by omega)
      have hw2 : IntKind.i64.wrap ((n : Int) - 1 - (k : Int)) = (j : Int) := by rw [wraps_i64 _ (by omega) (by omega)]; omega
      have HJ := Lib.hid hj
      clear hb hb2 hcell hcell2 hj
      go_wp2_with fail
      refine wp_region_L (Fr C0 wr) [] (by kernel_rfl) ?_
      have hSw0 : (Fr C0 wr) _ := (Fr.refl C0 wr).drew
      refine tk 0 hSw0 ?_
      refine tk 1 hSw0 ?_
      refine tk 2 hSw0 ?_
      refine tk 3 hSw0 ?_ (hy := by intro w_ hS_; have b0 := hS_.cell0 hcw; have b1 := hS_.cell0 hcw2; first | (go_simp; done) | (go_simp; with_reducible rfl))
      refine tk 4 hSw0 ?_
      refine tk 5 hSw0 ?_
      refine tk 6 hSw0 ?_
      refine tk 7 hSw0 ?_ (hy := by intro w_ hS_; have b0 := hS_.cell0 hcw; have b1 := hS_.cell0 hcw2; first | (go_simp; done) | (go_simp; with_reducible rfl))
      refine tk 8 hSw0 ?_ (hy := by intro w_ hS_; have b0 := hS_.cell0 hcw; have b1 := hS_.cell0 hcw2; first | (go_simp; done) | (go_simp; with_reducible rfl))
      refine tk 9 hSw0 ?_ (hy := by intro w_ hS_; have b0 := hS_.cell0 hcw; have b1 := hS_.cell0 hcw2; first | (go_simp; done) | (go_simp; with_reducible rfl))
      refine tk 10 hSw0 ?_
      refine tk 11 hSw0 ?_
      refine tk 12 hSw0 ?_
      refine tk 13 hSw0 ?_
      refine tk 14 hSw0 ?_
      refine tk 15 hSw0 ?_
      refine tk 16 hSw0 ?_
      refine tk 17 hSw0 ?_ (hy := by intro w_ hS_; have b0 := hS_.cell0 hcw; have b1 := hS_.cell0 hcw2; first | (go_simp; done) | (go_simp; with_reducible rfl))
      refine tk 18 hSw0 ?_
      refine tk 19 hSw0 ?_
      refine tk 20 hSw0 ?_
      refine tk 21 hSw0 ?_
      refine tk 22 hSw0 ?_
      refine tk 23 hSw0 ?_
      refine tk 24 hSw0 ?_ (hy := by intro w_ hS_; have b0 := hS_.cell0 hcw; have b1 := hS_.cell0 hcw2; first | (go_simp; done) | (go_simp; with_reducible rfl))
      refine tk 25 hSw0 ?_ (hy := by intro w_ hS_; have b0 := hS_.cell0 hcw; have b1 := hS_.cell0 hcw2; first | (go_simp; done) | (go_simp; with_reducible rfl))
      refine tk 26 hSw0 ?_ (hy := by intro w_ hS_; have b0 := hS_.cell0 hcw; have b1 := hS_.cell0 hcw2; first | (go_simp; done) | (go_simp; with_reducible rfl))
      refine tk 27 hSw0 ?_
      refine tk 28 hSw0 ?_
      refine tk 29 hSw0 ?_
      refine wpAnyL_done (by kernel_rfl) ?_ _
      have HT1 : Hid (tks[k]'(by omega) = ks[k].take m) := Lib.hid (by
        rw [HTK.out k (by omega)]
        have := hmm
        by_cases h : (64 : Int) < (ks[k].length : Int)
        · rw [if_pos h] at this
          rw [show m = 64 by omega]
        · rw [if_neg h] at this
          rw [List.take_of_length_le (by omega), List.take_of_length_le (by omega)])
      have HT2 : Hid (tks[j]'(by have := HJ.out; omega) = ks[j].take m2) := Lib.hid (by
        rw [HTK.out j (by have := HJ.out; omega)]
        have := hmm2
        by_cases h : (64 : Int) < (ks[j].length : Int)
        · rw [if_pos h] at this
          rw [show m2 = 64 by omega]
        · rw [if_neg h] at this
          rw [List.take_of_length_le (by omega), List.take_of_length_le (by omega)])
      have HA : Hid (foldO (tks.take (k + 1)) = ordL (ks[k].take m) (foldO (tks.take k))) := Lib.hid (by rw [foldO_take (by omega), HT1.out])
      have HB : Hid (foldO (tks.reverse.take (k + 1)) = ordL (ks[j].take m2) (foldO (tks.reverse.take k))) := Lib.hid (by
        rw [foldO_take_rev (by omega), ← HT2.out]
        have := HJ.out
        congr 2
        omega)
      have HP1 := Lib.hid (two_put HX.out (HP.out.fr0 (Fr.refl C0 wr).drew) HKB.out (by rw [HKL.out]; omega) (by omega))
      clear hcw hcw2 hmm hmm2 HP
      go_wp2_with fail
      refine HP1.out.mono ?_
      rintro e w3 ⟨i1, rfl, H3⟩
      have HP2 := Lib.hid (two_put HX.out.swap H3.out.swap HKB2.out (by rw [HKL2.out]; omega) (by omega))
      go_wp2_with fail
      refine HP2.out.mono ?_
      rintro e w4 ⟨i2, rfl, H4⟩
      have HP4 : Hid (Two w 1 4 tp tp' (foldO (tks.take (k + 1))) (foldO (tks.reverse.take (k + 1))) (4 * k + 2) w4) := Lib.hid (by rw [HA.out, HB.out]; exact H4.out.swap)
      clear HP1 HP2 H3 H4 HA HB HT1 HT2 HKB HKB2 HKL HKL2 hw1 hw2 hmc hmc2
      by_cases h7 : (k : Int) % 7 = 6
      · have HC1 := Lib.hid (two_commit HX.out HP4.out (by omega))
        go_wp2_with fail
        refine HC1.out.mono ?_
        rintro e w5 ⟨rfl, H5⟩
        have HC2 := Lib.hid (two_commit HX.out.swap H5.out.swap (by omega))
        go_wp2_with fail
        refine HC2.out.mono ?_
        rintro e w6 ⟨rfl, H6⟩
        have HP6 := Lib.hid H6.out.swap
        clear HC1 HC2 H5 H6 HP4
        go_wp2
        go_roundw
        case rel => exact ⟨k + 1, by omega, by go_num, Lib.hid (HP6.out.le (by omega))⟩
        case measure => simp [intOf]; omega
      · go_wp2
        go_roundw
        case rel => exact ⟨k + 1, by omega, by go_num, Lib.hid (HP4.out.le (by omega))⟩
        case measure => simp [intOf]; omega
    · obtain rfl : k = n := by omega
      have HPL : Hid (Two w 1 4 tp tp' (foldO tks) (foldO tks) (4 * k) wr) := Lib.hid (by
        have h1 := HP.out
        rw [List.take_of_length_le (by omega), List.take_of_length_le (by rw [List.length_reverse]; omega), foldO_rev] at h1
        exact h1)
      have hkk : ¬ (k : Int) < (k : Int) := by omega
      clear HP hk hlt
      have P3 : Hid (∃ L, Two w 1 4 tp tp' L L 300 wr) := Lib.hid ⟨_, HPL.out.le (by omega)⟩
      clear HPL
      go_wp2_with fail
      go_loopw [13] (fun i wr => ∃ d : Nat, d ≤ k ∧ i = .int .i64 (d : Int) ∧ Hid (∃ L, Two w 1 4 tp tp' L L 300 wr)) (fun i _ => k - (intOf i).toNat)
      case atStart => exact ⟨0, by omega, rfl, P3⟩
      case round =>
        obtain ⟨d, hd, rfl, HP⟩ := hrel
        clear P3
        by_cases hlt : d < k ∧ d < gs.length
        · obtain ⟨hlt1, hlt2⟩ := hlt
          obtain ⟨L, hP⟩ := HP.out
          have HPP := Lib.hid hP
          have hkl : d < ks.length := by omega
          obtain ⟨g, o, kvk, hKA, hcell, hb⟩ := HK3.out d hkl
          obtain ⟨g2, o2, hGA, hcell2⟩ := HG3.out d hlt2
          subst hKA
          subst hGA
          have hcw := hP.fr.cell0 hcell
          have hcw2 := hP.fr.cell0 hcell2
          obtain ⟨A1, n1, rfl, hn1, hn2⟩ := hb.form
          unfold maxLen at hn2
          have h1 : (d : Int) < (k : Int) := by omega
          have h2 : (d : Int) < (ks.length : Int) := by omega
          have h3 : (d : Int) < (gs.length : Int) := by omega
          obtain ⟨m, hm64, hml, hmm⟩ : ∃ m : Nat, m ≤ 64 ∧ m ≤ ks[d].length ∧ (if (64 : Int) < (ks[d].length : Int) then (64 : Int) else (ks[d].length : Int)) = (m : Int) := ⟨min ks[d].length 64, by omega, by omega, by split <;> omega⟩
          have hmc : (m : Int) ≤ (n1 : Int) := by omega
          have HKB := Lib.hid (hb.take hml)
          have HKL : Hid ((ks[d].take m).length = m) := Lib.hid (by rw [List.length_take]; omega)
          clear hb hcell hcell2 hP HP
          generalize gs[d] = b at *
          go_wp2_with fail
          refine wp_region_L (Fr C0 wr) [] (by kernel_rfl) ?_
          have hSw0 : (Fr C0 wr) _ := (Fr.refl C0 wr).drew
          refine tk 0 hSw0 ?_
          refine tk 1 hSw0 ?_
          refine tk 2 hSw0 ?_
          refine tk 3 hSw0 ?_ (hy := by intro w_ hS_; have b0 := hS_.cell0 hcw; first | (go_simp; done) | (go_simp; with_reducible rfl))
          refine tk 4 hSw0 ?_
          refine tk 5 hSw0 ?_
          refine tk 6 hSw0 ?_
          refine tk 7 hSw0 ?_ (hy := by intro w_ hS_; have b0 := hS_.cell0 hcw; first | (go_simp; done) | (go_simp; with_reducible rfl))
          refine tk 8 hSw0 ?_ (hy := by intro w_ hS_; have b0 := hS_.cell0 hcw; first | (go_simp; done) | (go_simp; with_reducible rfl))
          refine tk 9 hSw0 ?_ (hy := by intro w_ hS_; have b0 := hS_.cell0 hcw; first | (go_simp; done) | (go_simp; with_reducible rfl))
          refine tk 10 hSw0 ?_
          refine tk 11 hSw0 ?_
          refine wpAnyL_done (by kernel_rfl) ?_ _
          have HPD := Lib.hid (HPP.out.fr0 (Fr.refl C0 wr).drew)
          have hcd := ((Fr.refl C0 wr).drew).cell0 hcw2
          clear HPP hcw hcw2 hmm
          cases b with
          | false =>
            go_wp2
            go_roundw
            case rel => exact ⟨d + 1, by omega, by go_num, Lib.hid ⟨L, HPD.out⟩⟩
            case measure => simp [intOf]; omega
          | true =>
            rcases Nat.eq_zero_or_pos m with hm0 | hm0
            · subst hm0
              go_wp2
              go_roundw
              case rel => exact ⟨d + 1, by omega, by go_num, Lib.hid ⟨L, HPD.out⟩⟩
              case measure => simp [intOf]; omega
            · have hne : ks[d].take m ≠ [] := fun e => by have := HKL.out; rw [e] at this; simp at this; omega
              have HD1 := Lib.hid (two_del HX.out HPD.out HKB.out hne (by rw [HKL.out]; omega) (by omega))
              have HKN := Lib.hid hne
              have hmi : (0 : Int) < (m : Int) := by omega
              generalize hbb : (getL (ks[d].take m) L).isSome = bb at HD1
              have HBB := Lib.hid hbb
              clear hbb hne
              go_wp2_with fail
              refine HD1.out.mono ?_
              rintro e w5 ⟨rfl, H5⟩
              have HD2 := Lib.hid (two_del HX.out.swap H5.out.swap HKB.out HKN.out (by rw [HKL.out]; omega) (by omega))
              rw [HBB.out] at HD2
              go_wp2_with fail
              refine HD2.out.mono ?_
              rintro e w6 ⟨rfl, H6⟩
              have HP6 := Lib.hid H6.out.swap
              clear HD1 HD2 H5 H6 HPD
              cases bb
              all_goals
                go_wp2
                go_roundw
                case rel => exact ⟨d + 1, by omega, by go_num, Lib.hid ⟨_, HP6.out⟩⟩
                case measure => simp [intOf]; omega
        · have hex : ¬ (d : Int) < (k : Int) ∨ (d : Int) < (k : Int) ∧ ¬ (d : Int) < (gs.length : Int) := by omega
          obtain ⟨L, hP⟩ := HP.out
          have HR1 := Lib.hid (two_range HX.out hP (by omega))
          have HLE := Lib.hid (Two.ex hP)
          clear hlt hP HP
          rcases hex with h1 | ⟨h1, h2⟩
          all_goals
            go_wp2_with fail
            refine HR1.out.mono ?_
            rintro e w5 ⟨A5, c5, rfl, H5⟩
            have HR2 := Lib.hid (two_range HX.out.swap H5.out.2.1.swap (by omega))
            go_wp2_with fail
            refine HR2.out.mono ?_
            rintro e w6 ⟨A6, c6, rfl, H6⟩
            have HP6 := Lib.hid H6.out.2.1.swap
            have HSM := Lib.hid (fun (w_ : World) (hf : Fr C0 w6 w_) => same_calls ((H5.out.2.2.fr0 H6.out.1).fr0 hf) (H6.out.2.2.fr0 hf))
            rw [decide_eq_true rfl] at HSM
            have HLA := Lib.hid (fun (w_ : World) (hf : Fr C0 w6 w_) => two_len (HP6.out.fr0 hf))
            have HLB := Lib.hid (fun (w_ : World) (hf : Fr C0 w6 w_) => two_len (HP6.out.swap.fr0 hf))
            have HCA := Lib.hid (fun (w_ : World) (hf : Fr C0 w6 w_) => two_check HX.out (HP6.out.fr0 hf))
            have HCB := Lib.hid (fun (w_ : World) (hf : Fr C0 w6 w_) => two_check HX.out.swap (HP6.out.swap.fr0 hf))
            have HTD := Lib.hid (by obtain ⟨cx, hcx⟩ := two_cl HP6.out; exact told_calls hcx)
            clear HR1 HR2 H5 H6
            go_wp2_with fail
            refine HTD.out.mono ?_
            rintro e w7 ⟨rfl, f7⟩
            have F7 := Lib.hid f7
            clear f7
            go_wp2_with fail
            refine (HSM.out _ F7.out).mono ?_
            rintro e w8 ⟨rfl, f8⟩
            have F8 := Lib.hid (F7.out.trans0 f8)
            clear f8 F7
            go_wp2_with fail
            refine (HLA.out _ F8.out).mono ?_
            rintro e w9 ⟨rfl, rfl⟩
            go_wp2_with fail
            refine (HLB.out _ F8.out).mono ?_
            rintro e w9 ⟨rfl, rfl⟩
            go_wp2_with fail
            refine (HLA.out _ F8.out).mono ?_
            rintro e w9 ⟨rfl, rfl⟩
            go_wp2_with fail
            refine (HCA.out _ F8.out).mono ?_
            rintro e w9 ⟨rfl, f9⟩
            have F9 := Lib.hid (F8.out.trans0 f9)
            clear f9
            go_wp2_with fail
            refine (HCB.out _ F9.out).mono ?_
            rintro e w10 ⟨rfl, f10⟩
            have F10 := Lib.hid (F9.out.trans0 f10)
            clear f10
            go_wp2
            go_ret
            exact ⟨rfl, HP6.out.fr.trans0 F10.out⟩
end Go.Proofs.Ytcmicdcikechkaa
end
section
namespace Go.Proofs.Ytcmicdcikechkaa
open Go.RowKit Go.H Go.ChangeShapes Go.WideShapes Go.ChangeAt Go.Deep
section
variable {H : Type} {enc : TypeId × Value → H} {P : Program} {w : World} {base : Nat}
theorem open_yes {t e : TypeId} {v : Value} {d : DataW H} {ps : List MemPlace} (ht : P.underlying t = some (.slice e)) (he : P.underlying e = some .bool) (hc : P.cellsOf e = 1) (hv : Value.okWide P w .any base t v) (h : DataW.Trod enc P w 0 (fun _ => true) true t v d ps) : ∃ gs, BoolsAt w v gs := by
  obtain ⟨a, len, cap, rfl⟩ := okWide_slice ht hv
  obtain ⟨fuel, hf⟩ := h
  rcases open_bools ht he hc hf with ⟨hcs, -⟩ | ⟨a', len', cap', B, hcs, hb, hl, hm, hx, hcell⟩
  · simp [Value.cells] at hcs
    obtain ⟨rfl, rfl, rfl⟩ := hcs
    exact ⟨[], none, 0, rfl, Nat.le_refl _, Nat.zero_le _, fun i h => absurd h (by simp)⟩
  · simp [Value.cells] at hcs
    obtain ⟨rfl, rfl, rfl⟩ := hcs
    refine ⟨(List.range len).map B, some a', cap, by simp, by simpa using hl, hm, fun i hi => ?_⟩
    have hi' : i < len := by simpa using hi
    have h1 := hcell i (by omega)
    obtain ⟨g, o, sp⟩ := a'
    have hsp : sp = none := by
      simpa [Addr.add] using World.cell?_spot (hcell 0 (by omega))
    subst hsp
    rw [add_plain] at h1
    exact ⟨g, o, rfl, by simpa using h1⟩
end
theorem cells4 : Try.prog.cellsOf 4 = 1 := by kernel_rfl
set_option maxRecDepth 100000 in
theorem orders_lifted (os : Os) (started : os.Started) (H : Type) (enc : TypeId × Value → H) :
    ReturnsInHanded {} Try.checked os 6 .any (Rows.treeOrdersSpec.pre6 enc Try.prog Try.f6 Rows.treeOrdersRow.domain false) (Rows.treeOrdersSpec.post enc Try.prog Try.f6 false true false false) := by
  refine returnsInHanded_of_change (C := Try.checked) own_none started (by kernel_rfl) Try.func6
    (ChangeSpec.witness6 (enc := enc) (C := Try.checked) false ⟨#[], #[.slice none 0 0, .slice none 0 0], []⟩ 8 (by kernel_rfl) (by kernel_rfl) (by kernel_rfl) (by kernel_rfl)) ?_
  intro W base args ds gs before hval0 hW hcnd _
  have hval : ∀ (j : Nat) t v, (Try.f6).params[j]? = some t → args[j]? = some v → Value.okWide Try.prog W .any base t v := hval0
  have hW' := hW
  obtain ⟨p, q, hA0, hV, rfl, hfz, hnd⟩ := hW
  have hA : DataW.TrodAll enc Try.prog W 0 (fun _ => true) true (Try.f6).params.toList args.toList ds p := hA0
  rw [Try.params6] at hA hval
  obtain ⟨v0, vs0, d0, ds0, p0, q0, hargs, rfl, rfl, h0, r0⟩ := trodAll_cons hA
  obtain ⟨v1, vs1, d1, ds1, p1, q1, rfl, rfl, rfl, h1, r1⟩ := trodAll_cons r0
  obtain ⟨rfl, rfl, rfl⟩ := trodAll_nil r1
  obtain rfl : args = #[v0, v1] := by cases args; simp_all
  obtain ⟨rfl, rfl⟩ := trodVars_none hV
  obtain ⟨ks, hk⟩ := open_keys Try.underlying22 Try.underlying23 Try.underlying5 cells23 cells5 (hval 0 22 v0 rfl rfl) h0
  obtain ⟨gs2, hg⟩ := open_yes Try.underlying49 Try.underlying4 cells4 (hval 1 49 v1 rfl rfl) h1
  refine (orders_calls hk hg).mono fun e W' ⟨he, hf⟩ => ?_
  subst he
  exact ⟨_, rfl, law_post laid_out (by decide +kernel) rfl rfl Try.underlying4 hW' rfl hf⟩
theorem orders_over : Rows.treeOrdersRow.holds Try.pinned (OpenSpec.ofChange Rows.treeOrdersSpec) :=
  OpenClaim.holds_of_wide 6 Try.f6 rfl rfl rfl rfl rfl rfl rfl ⟨rfl, rfl, rfl, rfl, rfl⟩ rfl rfl rfl rfl rfl (by kernel_rfl) Try.func6 (by kernel_rfl)
    (of_decide_eq_true (by kernel_rfl)) (by unfold Func.isWrapper; first | (rw [if_pos (by decide +kernel)]; kernel_rfl) | (rw [if_neg (by decide +kernel)]; exact ⟨rfl, rfl⟩))
    (fun os started H enc _ => orders_lifted os started H enc)
theorem tree_orders : Rows.TreeOrdersSaid := orders_over
end Go.Proofs.Ytcmicdcikechkaa
end
