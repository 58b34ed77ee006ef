import Derived.Test.YtcmicdcikechkaaGreatKeeps32
import Derived.Test.YtcmicdcikechkaaGreatKeeps34
import Derived.Test.YtcmicdcikechkaaGreatKeeps35
import Derived.Test.YtcmicdcikechkaaGreatKeeps21
import Derived.Lib.SmallJoins
import Derived.Test.YtcmicdcikechkaaGreatKeeps01
set_option linter.all false
namespace Go.Proofs.YtcmicdcikechkaaGreat
section
open Go.RowKit Go.H
set_option maxHeartbeats 2000000
set_option maxRecDepth 100000
theorem TreeAt.cl {c : Nat → Nat} {r rn rm : Nat} {w : World} {tp : Nat} {Z : TSt} {k : Nat} (h : TreeAt c r rn rm w tp Z k) : Cl w c := by
 obtain ⟨st, lm, km, nr, lr, gv, ov, sn, h⟩ := h
 exact h.cl
def ComAt (c : Nat → Nat) (r rn rm : Nat) (w : World) (tp : Nat) (Z : TSt) (err : Int) (w' : World) : Prop := Fr (fun b => c b = r ∨ c b = rn ∨ c b = rm) w w' ∧ ((err = 0 ∧ ∃ c' Z', Ag w.heap.size c c' ∧ TreeAt c' r rn rm w' tp Z' 0 ∧ rootL Z'.now = rootL Z.now ∧ Z'.last = Z'.now ∧ Z'.gone = [] ∧ rootD Z'.now = rootD Z.now ∧ Z'.S.pages = Z.S.pages ∧ Z'.S.num = Z.S.num + 1 ∧ rootDirty Z'.now = 0 ∧ Z'.S.dk = Z.S.dk ∧ (Z.D.after < 1 → Z'.D.after < 1)) ∨ (err = 20 ∧ Fell c r w w' Z.S.dk Z.D (TQ Z)))
theorem zez {c : Nat → Nat} {r rn rm : Nat} {w : World} {tp : Nat} {Z : TSt} (ho : Owners r rn rm) (h : TreeAt c r rn rm w tp Z 0) (hn : Z.S.num < 1000000) :
 Calls Tryz.prog 11 #[.pointer (some ⟨tp, 0, none⟩)] w fun e w' => ∃ err : Int, e = .returned (.int .i64 err) ∧ Hid (ComAt c r rn rm w tp Z err w') := by
 obtain ⟨st, lm, km, nr, lr, gv, ov, sn, h⟩ := h
 refine (ze6 ho h hn).mono ?_
 rintro e w' ⟨err, rfl, H⟩
 obtain ⟨fr, (⟨rfl, c', o', new, S1, D1, R, rv, ag, h', e1, e2, e3, e4, e5, e6⟩ | ⟨rfl, hf⟩)⟩ := H.out
 case inr => exact ⟨20, rfl, zhd ⟨fr, .inr ⟨rfl, hf⟩⟩⟩
 refine ⟨0, rfl, zhd ⟨fr, .inl ⟨rfl, c', _, ag, ⟨st, lm, km, rv, rv, _, ov, sn, h'⟩, e1, rfl, rfl, e2, e3, by show S1.num + 1 = _; rw [e4], ?_, e5, e6⟩⟩⟩
 have hp : rootPage o' := h'.bk.lp
 show rootDirty o' = 0
 cases o' with
 | none => rfl
 | some p => exact zc5 hp
theorem zf0 {c : Nat → Nat} {r rn rm : Nat} {w : World} {tp : Nat} {Z : TSt} (ho : Owners r rn rm) (h : TreeAt c r rn rm w tp Z 0) (hn : Z.S.num < 1000000) (haf : Z.D.after < 1) :
 Calls Tryz.prog 11 #[.pointer (some ⟨tp, 0, none⟩)] w fun e w' => e = .returned (.int .i64 0) ∧ Fr (fun b => c b = r ∨ c b = rn ∨ c b = rm) w w' ∧ ∃ c' Z', Ag w.heap.size c c' ∧ TreeAt c' r rn rm w' tp Z' 0 ∧ rootL Z'.now = rootL Z.now ∧ Z'.last = Z'.now ∧ Z'.gone = [] ∧ rootD Z'.now = rootD Z.now ∧ Z'.S.pages = Z.S.pages ∧ Z'.S.num = Z.S.num + 1 ∧ rootDirty Z'.now = 0 ∧ Z'.S.dk = Z.S.dk ∧ Z'.D.after < 1 := by
 refine (zez ho h hn).mono ?_
 rintro e w' ⟨err, rfl, H⟩
 obtain ⟨fr, (⟨rfl, c', Z', e1, e2, e3, e4, e5, e6, e7, e8, e9, e10, e11⟩ | ⟨_, hf⟩)⟩ := H.out
 · exact ⟨rfl, fr, c', Z', e1, e2, e3, e4, e5, e6, e7, e8, e9, e10, e11 haf⟩
 · exact absurd haf hf.1
theorem zf1 {c : Nat → Nat} {r rn rm : Nat} {w : World} {tp k : Nat} {Z : TSt} (ho : Owners r rn rm) (h : TreeAt c r rn rm w tp Z k) :
 Calls Tryz.prog 34 #[.pointer (some ⟨tp, 0, none⟩)] w fun e w' => e = .returned (.int .i64 0) ∧ Fr (fun b => c b = r) w w' ∧ TreeAt c r rn rm w' tp { Z with now := Z.last, gone := [] } k := by
 obtain ⟨st, lm, km, nr, lr, gv, ov, sn, h⟩ := h
 have hl : lr = .nilIface ∨ ∃ tx y, lr = .iface tx y := by
  have := h.last
  cases hz : Z.last with
  | none => rw [hz] at this; exact .inl this
  | some p => rw [hz] at this; exact .inr this.1.iface
 refine (zae h.hd h.blk hl).mono ?_
 rintro e w' ⟨rfl, hb, hf⟩
 have hap : Apart c r w [tp] := fun b hb => by
  simp at hb; subst hb
  exact ⟨h.hd.own, _, _, _, h.blk, by decide, by decide, by decide⟩
 have hne : ∀ b, c b = rm → ¬ b = tp := fun b e h2 => ho.mr (e.symm.trans (by rw [h2]; exact h.hd.own))
 have hlast : RootAt c rn w' (pgs Z.D) Z.D.blocks False Z.last lr := RootAt.pageW h.bk.lp h.last
 refine ⟨rfl, hf.mono fun b _ e => by rw [e]; exact h.hd.own, st, lm, km, lr, lr, _, ov, sn, ⟨⟨z2e hb 0 rfl, h.hd.store.apart ho.r0 hap (hf.mono fun b _ e => by rw [e]; simp), h.hd.alive, h.hd.own⟩, h.cl.mono hf.size, hb, World.ownsRow_nil _ _ _ _, fun b e => by simp [Value.ownBlock] at e, z0m h.orow hf (fun b e => hne b (h.oo b e)), h.oo, h.live.fr hf (hne lm h.lmo), h.lmo, h.kept.fr hf (hne km h.kmo), h.kmo, h.lk, hlast, hlast, ?_⟩⟩
 have hbk := h.bk
 refine ⟨hbk.st, hbk.hn, hbk.ln, hbk.hl, hbk.hb, fun id => by have := hbk.b2 id; show rcnt (.pg id) Z.last + 0 = _; rw [this]; rfl, hbk.b2, fun b j => ?_, hbk.lp, ?_, hbk.opn, hbk.ok, hbk.sl, hbk.sl, hbk.num, hbk.bl, hbk.bl, hbk.head⟩
 · show rcnt (.cl b j) Z.last ≤ 1
   have h1 := h.last
   have h2 := hbk.lp
   cases hz : Z.last with
   | none => exact Nat.zero_le _
   | some p =>
     rw [hz] at h1 h2
     rw [show rcnt (.cl b j) (some p) = cnt p.1 (.cl b j) p.2 from rfl, zdz h2 h1.1]; omega
 · show rootDirty Z.last ≤ _
   have h2 := hbk.lp
   cases hz : Z.last with
   | none => exact Nat.zero_le _
   | some p =>
     rw [hz] at h2
     rw [show rootDirty (some p) = dirtyN p.1 p.2 from rfl, zc5 h2]; omega
def pagesOf : Nat → T → List Nat
 | 0, _ => []
 | d + 1, .node nm _ ks => (match nm with | .page id => [id] | .mem .. => []) ++ (ks.map (pagesOf d)).flatten
theorem zf2 (x : Nat) : ∀ (d : Nat) (t : T), (pagesOf d t).count x = cnt d (.pg x) t
 | 0, _ => rfl
 | d + 1, .node nm l ks => by
   have key : ∀ ks : List T, ((ks.map (pagesOf d)).flatten).count x = sumN (ks.map (cnt d (.pg x))) := by
    intro ks
    induction ks with
    | nil => rfl
    | cons k ks ih => simp only [List.map_cons, List.flatten_cons, List.count_append, sumN, ih, zf2 x d k]
   simp only [pagesOf, cnt, List.count_append, key]
   cases nm with
   | page id =>
     simp only [Nm.cnt, Th.pg.injEq]
     by_cases h : x = id
     · subst h; simp
     · simp [h, List.count_cons, Ne.symm h]
   | mem n g o => simp [Nm.cnt]
theorem zf3 : ∀ {d m : Nat} {t : T}, 1 ≤ m → Shape d m t → (pagesOf d t).length ≤ (flat d t).length
 | 0, _, _, _, _ => by simp [pagesOf]
 | d + 1, m, .node nm l ks, hm, h => by
   obtain ⟨h1, h2, h3, h4⟩ := h
   have hn : (match nm with | .page id => [id] | .mem .. => ([] : List Nat)).length ≤ 1 := by cases nm <;> simp
   by_cases hd : d = 0
   · subst hd
     rw [if_pos rfl] at h4
     subst h4
     show (_ ++ [].flatten).length ≤ (if 0 = 0 then l else _).length
     rw [if_pos rfl]
     simp only [List.length_append, List.flatten_nil, List.length_nil]
     omega
   · rw [if_neg hd] at h4
     show (_ ++ (ks.map (pagesOf d)).flatten).length ≤ (if d = 0 then l else _).length
     rw [if_neg hd, zeb (by simpa using h4.1), List.length_append]
     have key : ∀ ks : List T, (∀ k ∈ ks, Shape d 2 k) → ((ks.map (pagesOf d)).flatten).length ≤ sumN ((ks.map (flat d)).map List.length) := by
      intro ks
      induction ks with
      | nil => intro _; simp [sumN]
      | cons k ks ih =>
        intro hk
        have := ih (fun a ha => hk a (List.mem_cons_of_mem _ ha))
        have h5 := zf3 (by omega) (hk k (by simp))
        simp only [List.map_cons, List.flatten_cons, List.length_append, sumN]
        omega
     have := key ks h4.2
     omega
theorem zf4 {Z : TSt} (h : Books Z) (hs : RootSh Z.last) : Z.S.state.length ≤ (rootL Z.last).length := by
 rw [h.st, z90]
 have hb : ∀ x ∈ Z.held, 0 < rcnt (.pg x) Z.last := fun x hx => by
  rw [h.b2 x, if_pos ((h.hl x).1 hx)]; omega
 cases hz : Z.last with
 | none =>
   rw [hz] at hb
   cases hh : Z.held with
   | nil => simp
   | cons x l => exact absurd (hb x (by rw [hh]; simp)) (by simp [rcnt])
 | some p =>
   obtain ⟨d, t⟩ := p
   rw [hz] at hb hs
   exact Nat.le_trans (z91 h.hn fun x hx => List.count_pos_iff.1 (by rw [zf2]; exact hb x hx)) (zf3 (Nat.le_refl _) hs)
theorem TreeAt.shl {c : Nat → Nat} {r rn rm : Nat} {w : World} {tp : Nat} {Z : TSt} {k : Nat} (h : TreeAt c r rn rm w tp Z k) : RootSh Z.last := by
 obtain ⟨st, lm, km, nr, lr, gv, ov, sn, h⟩ := h
 exact h.last.sh
theorem zf5 {c : Nat → Nat} {r rn rm : Nat} {w : World} {tp : Nat} {Z : TSt} (ho : Owners r rn rm) (h : TreeAt c r rn rm w tp Z 0) :
 Calls Tryz.prog 29 #[.pointer (some ⟨tp, 0, none⟩)] w fun e w' => ∃ sp, e = .returned (.tuple #[.pointer (some ⟨sp, 0, none⟩), .int .i64 0]) ∧ Fr (fun b => c b = r ∨ c b = rm) w w' ∧ ∃ c', Ag w.heap.size c c' ∧ TreeAt c' r rn rm w' tp Z 1 ∧
  ∀ (q n : Nat) (lov hiv : Value) (lo hi : Bs), q ≠ 0 → q ≠ r → q ≠ rn → (∀ b, c' b ≠ q) → n ≤ 4611686018427387904 → BytesAt (Dt c') w' lov lo → BytesAt (Dt c') w' hiv hi → lo.length ≤ 64 → hi.length ≤ 64 →
    Calls Tryz.prog 30 #[.pointer (some ⟨sp, 0, none⟩), lov, hiv, .int .i64 (n : Int)] w' fun e w2 => Fr C0 w' w2 ∧ ∃ v' c2, e = .returned (.tuple #[v', .int .i64 0]) ∧ Ag w'.heap.size c' c2 ∧ Cl w2 c2 ∧ Out w'.heap.size c2 q w2 v' ((rangeL lo hi (rootL Z.last)).take n) := by
 obtain ⟨st, lm, km, nr, lr, gv, ov, sn, h⟩ := h
 have hsn : sn = [] := List.eq_nil_of_length_eq_zero (by have := h.orow.1; simpa using this)
 refine (zew ho h (by omega) (by rw [hsn]; simp)).mono ?_
 rintro e w' ⟨sp, rfl, f, pm, ov', c', ag, h', hs, _⟩
 refine ⟨sp, rfl, f, c', ag, ⟨st, lm, km, nr, lr, gv, ov', _, h'⟩, fun q n lov hiv lo hi a1 a2 a3 a4 a5 a6 a7 a8 a9 => ?_⟩
 refine (zag a1 a2 a3 a4 a5 h'.hd h'.cl hs h'.last h'.bk.sl a6 a7 a8 a9 (by have := h'.bk.bl; omega)).mono ?_
 rintro e w2 ⟨f2, ⟨hX, _⟩ | h2⟩
 · exact hX.elim
 · exact ⟨f2, h2⟩
theorem zf6 {c : Nat → Nat} {r rn rm : Nat} {w : World} {tp k : Nat} {Z : TSt} {kv : Value} {key : Bs} (h : TreeAt c r rn rm w tp Z k) (hk : BytesAt (Dt c) w kv key) (hw : wrong key [] = 0) :
 Calls Tryz.prog 13 #[.pointer (some ⟨tp, 0, none⟩), kv] w fun e w' => GetP w w' False e (getL key (rootL Z.now)) := by
 obtain ⟨st, lm, km, nr, lr, gv, ov, sn, h⟩ := h
 exact zad h.hd h.cl h.blk h.now h.bk.sn hk hw
theorem zf7 {c : Nat → Nat} {r rn rm q n : Nat} {w : World} {tp k : Nat} {Z : TSt} {lov hiv : Value} {lo hi : Bs} (hq0 : q ≠ 0) (hqr : q ≠ r) (hqn : q ≠ rn) (hqc : ∀ b, c b ≠ q) (hn : n ≤ 4611686018427387904) (h : TreeAt c r rn rm w tp Z k) (hlo : BytesAt (Dt c) w lov lo) (hhi : BytesAt (Dt c) w hiv hi) (hl1 : lo.length ≤ 64) (hl2 : hi.length ≤ 64) :
 Calls Tryz.prog 21 #[.pointer (some ⟨tp, 0, none⟩), lov, hiv, .int .i64 (n : Int)] w fun e w' => Fr C0 w w' ∧ ∃ v' c', e = .returned (.tuple #[v', .int .i64 0]) ∧ Ag w.heap.size c c' ∧ Cl w' c' ∧ Out w.heap.size c' q w' v' ((rangeL lo hi (rootL Z.now)).take n) := by
 obtain ⟨st, lm, km, nr, lr, gv, ov, sn, h⟩ := h
 refine (zab hq0 hqr hqn hqc hn h.hd h.cl h.blk h.now h.bk.sn hlo hhi hl1 hl2 (by have := h.bk.bn; omega)).mono ?_
 rintro e w' ⟨f, ⟨hX, _⟩ | h'⟩
 · exact hX.elim
 · exact ⟨f, h'⟩
theorem zf8 {c : Nat → Nat} {r rn rm : Nat} {w : World} {tp k : Nat} {Z : TSt} (h : TreeAt c r rn rm w tp Z k) : Calls Tryz.prog 15 #[.pointer (some ⟨tp, 0, none⟩)] w fun e w' => e = .returned (.int .i64 ((rootL Z.now).length : Int)) ∧ w = w' := by
 obtain ⟨st, lm, km, nr, lr, gv, ov, sn, h⟩ := h
 exact za9 h.blk
theorem zf9 {c : Nat → Nat} {r rn rm : Nat} {w : World} {tp k : Nat} {Z : TSt} (h : TreeAt c r rn rm w tp Z k) : Calls Tryz.prog 20 #[.pointer (some ⟨tp, 0, none⟩)] w fun e w' => e = .returned (.int .i64 (Z.S.num : Int)) ∧ w = w' := by
 obtain ⟨st, lm, km, nr, lr, gv, ov, sn, h⟩ := h
 exact zaa h.hd (by have := h.bk.num; omega)
theorem zfa {F G : Nat → Prop} {c : Nat → Nat} {r rn rm : Nat} {w : World} {tp n : Nat} {Z : TSt} {kv vv : Value} {k v : Bs} (h : TreeAt c r rn rm w tp Z n) (hk : BytesAt F w kv k) (hv : BytesAt G w vv v) (hw : wrong k v ≠ 0) :
 Calls Tryz.prog 10 #[.pointer (some ⟨tp, 0, none⟩), kv, vv] w fun e w' => e = .returned (.int .i64 (wrong k v : Int)) ∧ Fr C0 w w' := by
 obtain ⟨st, lm, km, nr, lr, gv, ov, sn, h⟩ := h
 exact zah h.hd hk hv hw
theorem zfb {w : World} {c : Nat → Nat} (hc : Cl w c) : ∃ r rn rm, Owners r rn rm ∧ ∀ b, c b ≠ r ∧ c b ≠ rn ∧ c b ≠ rm := by
 have h : ∀ n, ∃ M, ∀ k, k < n → c k ≤ M := by
  intro n
  induction n with
  | zero => exact ⟨0, fun k h => absurd h (by omega)⟩
  | succ n ih =>
    obtain ⟨M, h⟩ := ih
    refine ⟨M + c n, fun k hk => ?_⟩
    by_cases e : k = n
    · subst e; omega
    · have := h k (by omega); omega
 obtain ⟨M, h⟩ := h w.heap.size
 have hb : ∀ b, c b ≤ M := fun b => by
  by_cases hk : b < w.heap.size
  · exact h b hk
  · have := hc b (by omega); omega
 exact ⟨M + 1, M + 2, M + 3, ⟨by omega, by omega, by omega, by omega, by omega, by omega⟩, fun b => by have := hb b; omega⟩
theorem zfc {c : Nat → Nat} {r rn rm n : Nat} {w : World} (ho : Owners r rn rm) (hc : Cl w c) (h1 : 3 ≤ n) (h2 : n ≤ 4096) :
 Calls Tryz.prog 8 #[.int .i64 (n : Int)] w fun e w' => ∃ tp, e = .returned (.tuple #[.pointer (some ⟨w.heap.size + 1, 0, none⟩), .pointer (some ⟨tp, 0, none⟩)]) ∧ Fr C0 w w' ∧ ∃ c', Ag w.heap.size c c' ∧ TreeAt c' r rn rm w' tp (TSt.empty (newD n) 0 (w.heap.size + 1)) 0 := by
 have HN := zhd (z3a w n (by omega) h2)
 have HO := zhd (fun (w_ : World) (c_ : Nat → Nat) (hd : DiskA (Dt c_) w_ (w.heap.size + 1) w.heap.size (.slice none 0 0) (newD n)) (e1 : c_ (w.heap.size + 1) = r) (e2 : c_ w.heap.size = r) (hc_ : Cl w_ c_) => zen (num := 0) ho hd e1 e2 (fun b hb => by simp [Value.ownBlock] at hb) hc_ rfl h1 h2 (zes n) rfl (zer n) (by omega) (zdi (zeq n)))
 have HC := zhd hc
 clear hc
 go_enter Tryz.func8, Tryz.ntmps8
 go_wp2_with fail
 refine HN.out.mono ?_
 rintro e w1 ⟨rfl, f1, hs1, hd1⟩
 obtain ⟨c1, hc1, hc2, hag, hcl⟩ : ∃ c1 : Nat → Nat, c1 (w.heap.size + 1) = r ∧ c1 w.heap.size = r ∧ Ag w.heap.size c c1 ∧ Cl w1 c1 := by
  refine ⟨fun b => if b = w.heap.size ∨ b = w.heap.size + 1 then r else c b, by simp, by simp, fun b hb => ?_, fun b hb => ?_⟩
  · simp only []; rw [if_neg (by omega)]
  · simp only []; rw [if_neg (by omega)]; exact HC.out b (by omega)
 have HO1 := zhd (HO.out w1 c1 (hd1.mono fun b hb _ => hb.elim) hc1 hc2 hcl)
 have F1 := zhd f1
 have HS1 := zhd hs1
 clear HN HO f1 hs1 hd1
 go_wp2_with fail
 refine HO1.out.mono ?_
 rintro e w2 ⟨f2, tp, c2, rfl, ag2, hle, ht2⟩
 have F2 := zhd f2
 have T2 := zhd ht2
 clear f2 ht2 HO1
 go_wp2
 go_ret2
 exact ⟨tp, rfl, F1.out.trans0 F2.out, c2, fun b hb => (ag2 b (by have := HS1.out; omega)).trans (hag b hb), T2.out⟩
end
section
open Go.RowKit Go.H
set_option maxHeartbeats 2000000
set_option maxRecDepth 100000
structure Stg (c0 : Nat → Nat) (w0 : World) (r rn rm : Nat) (c : Nat → Nat) (w : World) (tp : Nat) (Z : TSt) (k : Nat) : Prop where
 fr : Fr C0 w0 w
 ag : Ag w0.heap.size c0 c
 tr : TreeAt c r rn rm w tp Z k
theorem Stg.next {c0 : Nat → Nat} {w0 : World} {r rn rm : Nat} {c c' : Nat → Nat} {w w' : World} {tp tp' : Nat} {Z Z' : TSt} {k k' : Nat} (h : Stg c0 w0 r rn rm c w tp Z k) (hn : ∀ b, c0 b ≠ r ∧ c0 b ≠ rn ∧ c0 b ≠ rm) (hf : Fr (fun b => c b = r ∨ c b = rn ∨ c b = rm) w w') (ha : Ag w.heap.size c c') (ht : TreeAt c' r rn rm w' tp' Z' k') : Stg c0 w0 r rn rm c' w' tp' Z' k' := by
 refine ⟨h.fr.trans hf (fun b hb e => ?_), fun b hb => (ha b (by have := h.fr.size; omega)).trans (h.ag b hb), ht⟩
 rw [h.ag b hb] at e
 have := hn b
 rcases e with e | e | e
 · exact this.1 e
 · exact this.2.1 e
 · exact this.2.2 e
theorem Stg.fr0 {c0 : Nat → Nat} {w0 : World} {r rn rm : Nat} {c : Nat → Nat} {w w' : World} {tp : Nat} {Z : TSt} {k : Nat} (h : Stg c0 w0 r rn rm c w tp Z k) (hf : Fr C0 w w') : Stg c0 w0 r rn rm c w' tp Z k := ⟨h.fr.trans0 hf, h.ag, h.tr.fr0 hf⟩
theorem TreeAt.move {c c' : Nat → Nat} {r rn rm : Nat} {w w' : World} {tp : Nat} {Z : TSt} {k : Nat} (h : TreeAt c r rn rm w tp Z k) (hf : Fr C0 w w') (ha : Ag w.heap.size c c') (hc : Cl w' c') : TreeAt c' r rn rm w' tp Z k := by
 obtain ⟨st, lm, km, nr, lr, gv, ov, sn, h⟩ := h
 exact ⟨st, lm, km, nr, lr, gv, ov, sn, (h.hd.ag ha).fr0 hf, hc, hf.blk h.blk (fun h => h), z0m h.gr hf (fun _ _ h => h), fun b hb => (ha b (h.gr.lt b hb).2).trans (h.go b hb), z0m h.orow hf (fun _ _ h => h), fun b hb => (ha b (h.orow.lt b hb).2).trans (h.oo b hb), h.live.fr hf (fun h => h), (ha _ h.live.lt).trans h.lmo, h.kept.fr hf (fun h => h), (ha _ h.kept.lt).trans h.kmo, h.lk, (h.now.ag ha).fr0 hf, (h.last.ag ha).fr0 hf, h.bk⟩
theorem Stg.move {c0 : Nat → Nat} {w0 : World} {r rn rm : Nat} {c c' : Nat → Nat} {w w' : World} {tp : Nat} {Z : TSt} {k : Nat} (h : Stg c0 w0 r rn rm c w tp Z k) (hf : Fr C0 w w') (ha : Ag w.heap.size c c') (hc : Cl w' c') : Stg c0 w0 r rn rm c' w' tp Z k := ⟨h.fr.trans0 hf, fun b hb => (ha b (by have := h.fr.size; omega)).trans (h.ag b hb), h.tr.move hf ha hc⟩
theorem zfd {c c' : Nat → Nat} {w w' : World} {v : Value} {l : Bs} (h : BytesAt (Dt c) w v l) (hf : Fr C0 w w') (ha : Ag w.heap.size c c') : BytesAt (Dt c') w' v l :=
 (h.mono (F' := Dt c') (fun b hb hl => (ha b hl).trans hb)).fr0 hf
theorem Stg.ag' {c0 : Nat → Nat} {w0 : World} {r rn rm : Nat} {c c' : Nat → Nat} {w w' : World} {tp : Nat} {Z : TSt} {k : Nat} (h : Stg c0 w0 r rn rm c w tp Z k) (ha : Ag w.heap.size c c') (hc : Cl w c') : Stg c0 w0 r rn rm c' w tp Z k := ⟨h.fr, fun b hb => (ha b (by have := h.fr.size; omega)).trans (h.ag b hb), h.tr.ag ha hc⟩
theorem zfe {c c' : Nat → Nat} {r rn rm : Nat} {w w' : World} {v : Value} {l : Bs} (ho : Owners r rn rm) (h : BytesAt (Dt c) w v l) (hf : Fr (fun b => c b = r ∨ c b = rn ∨ c b = rm) w w') (ha : Ag w.heap.size c c') : BytesAt (Dt c') w' v l :=
 ((h.mono (F' := fun b => c b = 0 ∧ b < w.heap.size) (fun b hb hl => ⟨hb, hl⟩)).fr hf (fun b hb e => by rcases e with e | e | e; exact ho.r0 (e.symm.trans hb.1); exact ho.n0 (e.symm.trans hb.1); exact ho.m0 (e.symm.trans hb.1))).mono (fun b hb _ => (ha b hb.2).trans hb.1)
theorem zff {c : Nat → Nat} {r rn rm : Nat} {w : World} {tp : Nat} {Z : TSt} {k : Nat} {kv vv : Value} {x : KV} (ho : Owners r rn rm) (h : TreeAt c r rn rm w tp Z k) (hk : BytesAt (Dt c) w kv x.1) (hv : BytesAt (Dt c) w vv x.2) (hw : wrong x.1 x.2 = 0) (hb : (rootL Z.now).length < 90000) (hr : (rootL Z.now).length < Z.S.pages - Z.S.state.length) :
 Calls Tryz.prog 10 #[.pointer (some ⟨tp, 0, none⟩), kv, vv] w fun e w' => e = .returned (.int .i64 0) ∧ Fr (fun b => c b = r ∨ c b = rn ∨ c b = rm) w w' ∧ ∃ c' o' gone', Ag w.heap.size c c' ∧ TreeAt c' r rn rm w' tp { Z with now := o', gone := gone' } k ∧ rootL o' = putL x (rootL Z.now) := by
 refine (zdm ho h hk hv hw hb).mono ?_
 rintro e w' (⟨rfl, f, o', h1, h2, h3, h4⟩ | ⟨rfl, f, c', o', gone', h1, h2, h3⟩)
 · have h5 := zbw h2
   rw [h1, zbm h.bk.sn] at h5
   split at h5 <;> omega
 · exact ⟨rfl, f.mono fun b _ e => .inl e, c', o', gone', h1, h2, h3⟩
@[go_sem] theorem zfg (w : World) : (binOp .eql 9 (.string ⟨#[97]⟩) (.string ⟨#[97]⟩)).run Tryz.prog w = .ok (.bool true) w := by kernel_rfl
theorem zfh {c : Nat → Nat} {w : World} (hc : Cl w c) : Calls Tryz.prog 14 #[] w fun e w' => e = .returned (.bool true) ∧ Fr C0 w w' := by
 obtain ⟨r, rn, rm, ho, hn⟩ := zfb hc
 have HN := zhd (z3a w 30 (by omega) (by omega))
 have HO := zhd (fun (w_ : World) (c_ : Nat → Nat) (hd : DiskA (Dt c_) w_ (w.heap.size + 1) w.heap.size (.slice none 0 0) (newD 30)) (e1 : c_ (w.heap.size + 1) = r) (e2 : c_ w.heap.size = r) (hc_ : Cl w_ c_) => zen (num := 0) ho hd e1 e2 (fun b hb => by simp [Value.ownBlock] at hb) hc_ rfl (by show 3 ≤ 30; omega) (by show 30 ≤ 4096; omega) (zes 30) rfl (zer 30) (by omega) (zdi (zeq 30)))
 have HC := zhd hc
 have HOW := zhd ho
 have HNW := zhd hn
 clear hc ho hn
 go_enter Tryz.func14, Tryz.ntmps14
 go_wp2_with fail
 refine HN.out.mono ?_
 rintro e w1 ⟨rfl, f1, hs1, hd1⟩
 obtain ⟨c1, hc1, hc2, hag, hcl⟩ : ∃ c1 : Nat → Nat, c1 (w.heap.size + 1) = r ∧ c1 w.heap.size = r ∧ Ag w.heap.size c c1 ∧ Cl w1 c1 := by
  refine ⟨fun b => if b = w.heap.size ∨ b = w.heap.size + 1 then r else c b, by simp, by simp, fun b hb => ?_, fun b hb => ?_⟩
  · simp only []; rw [if_neg (by omega)]
  · simp only []; rw [if_neg (by omega)]; exact HC.out b (by omega)
 have HO1 := zhd (HO.out w1 c1 (hd1.mono fun b hb _ => hb.elim) hc1 hc2 hcl)
 have F1 := zhd f1
 have HS1 := zhd hs1
 clear HN HO f1 hs1 hd1
 go_wp2_with fail
 refine HO1.out.mono ?_
 rintro e w2 ⟨f2, tp, c2, rfl, ag2, hle, ht2⟩
 have S2 : Hid (Stg c w r rn rm c2 w2 tp (TSt.empty (newD 30) 0 (w.heap.size + 1)) 0) := zhd ⟨F1.out.trans0 f2, fun b hb => (ag2 b (by have := HS1.out; omega)).trans (hag b hb), ht2⟩
 clear f2 ht2 HO1 ag2 hag hcl hc1 hc2 F1 HS1
 have hcv1 := Go.Joins.run_convert_bytes_const_at (P := Tryz.prog) w2 30 5 #[.int .u8 97] 1 1 w2.heap.size rfl Tryz.underlying30 Tryz.underlying5
 have hcv2 := Go.Joins.run_convert_bytes_const_at (P := Tryz.prog) (w2.alloc (.cells #[.int .u8 97] 5 (1, 2))) 30 5 #[.int .u8 98] 1 1 (w2.heap.size + 1) (by simp) Tryz.underlying30 Tryz.underlying5
 go_wp2_with fail
 clear hcv1 hcv2
 have g3 := ((Fr.refl C0 w2).alloc (.cells #[.int .u8 97] 5 (1, 2))).alloc (.cells #[.int .u8 98] 5 (1, 2))
 have hba := ((Fr.refl C0 _).alloc (.cells #[.int .u8 98] 5 (1, 2))).blk (heap_alloc_new w2 (.cells #[.int .u8 97] 5 (1, 2))) (fun h => h)
 have hbb := heap_alloc_new (w2.alloc (.cells #[.int .u8 97] 5 (1, 2))) (.cells #[.int .u8 98] 5 (1, 2))
 rw [show (w2.alloc (.cells #[.int .u8 97] 5 (1, 2))).heap.size = w2.heap.size + 1 by simp] at hbb
 generalize (w2.alloc (.cells #[.int .u8 97] 5 (1, 2))).alloc (.cells #[.int .u8 98] 5 (1, 2)) = w3 at *
 have S3 := zhd (S2.out.fr0 g3)
 have A3 : Hid (BytesAt (Dt c2) w3 (.slice (some ⟨w2.heap.size, 0, none⟩) 1 1) [97]) := zhd (z0i.2 (Row.ofBlock (n := 1) (size := 1) hba (S2.out.tr.cl _ (Nat.le_refl _)) (by unfold maxLen; omega) rfl))
 have B3 : Hid (BytesAt (Dt c2) w3 (.slice (some ⟨w2.heap.size + 1, 0, none⟩) 1 1) [98]) := zhd (z0i.2 (Row.ofBlock (n := 1) (size := 1) hbb (S2.out.tr.cl _ (by omega)) (by unfold maxLen; omega) rfl))
 clear hba hbb g3 S2
 refine (zff (x := ([97], [98])) HOW.out S3.out.tr A3.out B3.out rfl (by show 0 < 90000; omega) (by show 0 < 28 - 0; omega)).mono ?_
 rintro e w4 ⟨rfl, f4, c4, o4, g4, ag4, t4, hl4⟩
 have S4 := zhd (S3.out.next HNW.out f4 ag4 t4)
 have A4 := zhd (zfe HOW.out A3.out f4 ag4)
 have B4 := zhd (zfe HOW.out B3.out f4 ag4)
 have HL4 : Hid (rootL o4 = [([97], [98])]) := zhd hl4
 clear f4 ag4 t4 hl4 S3 A3 B3
 go_wp2_with fail
 refine (zf0 HOW.out S4.out.tr (by show 0 < 1000000; omega) (by show (0 : Int) < 1; omega)).mono ?_
 rintro e w5 ⟨rfl, f5, c5, Z5, ag5, t5, h51, h52, h53, h54, h55, h56, h57, -⟩
 have S5 := zhd (S4.out.next HNW.out f5 ag5 t5)
 have A5 := zhd (zfe HOW.out A4.out f5 ag5)
 have B5 := zhd (zfe HOW.out B4.out f5 ag5)
 have HL5 : Hid (rootL Z5.now = [([97], [98])]) := zhd (h51.trans HL4.out)
 have HZ5 : Hid (Z5.last = Z5.now ∧ Z5.S.pages = 28 ∧ Z5.S.num = 1 ∧ Z5.S.state.length ≤ 1) := zhd ⟨h52, h55, h56, by
  have := zf4 t5.bk t5.shl
  rw [h52, h51, HL4.out] at this
  simpa using this⟩
 clear f5 ag5 t5 h51 h52 h53 h54 h55 h56 h57 S4 A4 B4 HL4
 go_wp2_with fail
 refine (zff (x := ([98], [97])) HOW.out S5.out.tr B5.out A5.out rfl (by rw [HL5.out]; simp) (by rw [HL5.out]; have := HZ5.out; simp; omega)).mono ?_
 rintro e w6 ⟨rfl, f6, c6, o6, g6, ag6, t6, hl6⟩
 have S6 := zhd (S5.out.next HNW.out f6 ag6 t6)
 have B6 := zhd (zfe HOW.out B5.out f6 ag6)
 have HL6 : Hid (rootL o6 = [([97], [98]), ([98], [97])]) := zhd (by rw [hl6, HL5.out]; rfl)
 clear f6 ag6 t6 hl6 S5 A5 B5
 go_wp2_with fail
 refine (zf5 HOW.out S6.out.tr).mono ?_
 rintro e w7 ⟨sp, rfl, f7, c7, ag7, t7, hsr⟩
 have f7' : Fr (fun b => c6 b = r ∨ c6 b = rn ∨ c6 b = rm) w6 w7 := f7.mono fun b _ e => e.elim .inl (fun e => .inr (.inr e))
 have S7 := zhd (S6.out.next HNW.out f7' ag7 t7)
 have B7 := zhd (zfe HOW.out B6.out f7' ag7)
 obtain ⟨q, q0, q1, q2, q3⟩ := zbl t7.cl r rn
 have HSR := zhd (hsr q 9 (.slice none 0 0) (.slice none 0 0) [] [] q1 q2 q3 q0 (by omega) ⟨none, 0, rfl, Nat.le_refl _, by unfold maxLen; omega, fun h => absurd rfl h⟩ ⟨none, 0, rfl, Nat.le_refl _, by unfold maxLen; omega, fun h => absurd rfl h⟩ (by simp) (by simp))
 clear f7 ag7 t7 hsr f7' S6 B6 q0 q1 q2 q3
 go_wp2_with fail
 refine HSR.out.mono ?_
 rintro e w8 ⟨f8, v8, c8, rfl, ag8, cl8, o8⟩
 have S8 := zhd (S7.out.move f8 ag8 cl8)
 have B8 := zhd (zfd B7.out f8 ag8)
 obtain ⟨vA, vc, rfl, -⟩ := o8.form
 have hlen8 : ((rangeL [] [] (rootL Z5.last)).take 9).length = 1 := by rw [HZ5.out.1, HL5.out]; rfl
 rw [hlen8]
 clear f8 ag8 cl8 o8 HSR S7 B7 hlen8
 go_wp2_with fail
 refine (zf6 S8.out.tr B8.out rfl).mono ?_
 rintro e w9 ⟨f9, h9⟩
 have hg9 : getL [98] (rootL ({ S := Z5.S, D := Z5.D, now := o6, last := Z5.last, gone := g6, live := Z5.live, held := Z5.held } : TSt).now) = some [97] := by
  show getL [98] (rootL o6) = _
  rw [HL6.out]; rfl
 rcases h9 with ⟨hX, _⟩ | h9
 · exact hX.elim
 rw [hg9] at h9
 obtain ⟨v9, rfl, b9⟩ := h9
 have S9 := zhd (S8.out.fr0 f9)
 have B9 : Hid (BytesAt (Dt c8) w9 v9 [97]) := zhd (b9.mono fun b hb _ => S8.out.tr.cl b hb)
 obtain ⟨gA, gc, rfl, -⟩ := b9.form
 clear f9 b9 hg9 S8 B8
 go_wp2_with fail
 refine (zf1 HOW.out S9.out.tr).mono ?_
 rintro e w10 ⟨rfl, f10, t10⟩
 have f10' : Fr (fun b => c8 b = r ∨ c8 b = rn ∨ c8 b = rm) w9 w10 := f10.mono fun b _ e => .inl e
 have S10 := zhd (S9.out.next HNW.out f10' (Ag.refl _ _) t10)
 have B10 := zhd (zfe HOW.out B9.out f10' (Ag.refl _ _))
 clear f10 f10' t10 S9 B9
 have hst : (convert 30 9 (.slice gA 1 gc)).run Tryz.prog w10 = .ok (.string ⟨#[97]⟩) w10 := z2s B10.out
 have HCHK := zhd (zek HOW.out S10.out.tr)
 have HWR := zhd (fun (w_ : World) (hf : Fr C0 w10 w_) => zfa (k := []) (v := []) (F := fun _ => True) (G := fun _ => True) (kv := .slice none 0 0) (vv := .slice none 0 0) (S10.out.tr.fr0 hf) ⟨none, 0, rfl, Nat.le_refl _, by unfold maxLen; omega, fun h => absurd rfl h⟩ ⟨none, 0, rfl, Nat.le_refl _, by unfold maxLen; omega, fun h => absurd rfl h⟩ (by decide))
 have HLEN : Hid (Calls Tryz.prog 15 #[.pointer (some ⟨tp, 0, none⟩)] w10 fun e w' => e = .returned (.int .i64 1) ∧ w10 = w') := zhd ((zf8 S10.out.tr).mono (by
  rintro e w' ⟨rfl, rfl⟩
  refine ⟨?_, rfl⟩
  show Ending.returned (.int .i64 ((rootL Z5.last).length : Int)) = _
  rw [HZ5.out.1, HL5.out]; rfl))
 have HNUM : Hid (Calls Tryz.prog 20 #[.pointer (some ⟨tp, 0, none⟩)] w10 fun e w' => e = .returned (.int .i64 1) ∧ w10 = w') := zhd ((zf9 S10.out.tr).mono (by
  rintro e w' ⟨rfl, rfl⟩
  refine ⟨?_, rfl⟩
  show Ending.returned (.int .i64 (Z5.S.num : Int)) = _
  rw [HZ5.out.2.2.1]; rfl))
 have HFR := zhd S10.out.fr
 have hw1 : (wrong [] [] : Int) = 1 := rfl
 rw [hw1] at HWR
 clear hw1 S10 B10 HZ5 HL5 HL6 HC HOW HNW hle
 go_wp2_with fail
 refine HLEN.out.mono ?_
 rintro e w11 ⟨rfl, rfl⟩
 go_wp2_with fail
 refine HNUM.out.mono ?_
 rintro e w12 ⟨rfl, rfl⟩
 go_wp2_with fail
 refine HCHK.out.mono ?_
 rintro e w13 ⟨rfl, f13⟩
 have F13 := zhd f13
 clear f13
 go_wp2_with fail
 refine (HWR.out _ F13.out).mono ?_
 rintro e w14 ⟨rfl, f14⟩
 have F14 := zhd f14
 clear f14
 go_wp2
 go_ret
 exact ⟨rfl, (HFR.out.trans0 F13.out).trans0 F14.out⟩
end
section
open Go.RowKit Go.H
set_option maxHeartbeats 2000000
set_option maxRecDepth 100000
theorem zfi {F : Nat → Prop} {w : World} : ∀ {xs : List Value} {l : List KV}, PairCells F w xs l → ∀ u ∈ xs, u.oneCell' = true
 | _, _, .nil, u, hu => by simp at hu
 | _, _, .cons h1 h2 h3, u, hu => by
   obtain ⟨_, _, rfl, _⟩ := h1
   obtain ⟨_, _, rfl, _⟩ := h2
   rcases List.mem_cons.1 hu with rfl | hu
   · rfl
   · rcases List.mem_cons.1 hu with rfl | hu
     · rfl
     · rcases List.mem_cons.1 hu with rfl | hu
       · rfl
       · exact zfi h3 u hu
theorem zfj : ∀ {d m : Nat} {t : T}, Shape d m t → ∀ x ∈ flat d t, KVok x
 | 0, _, _, h, _, _ => h.elim
 | d + 1, m, .node nm l ks, h, x, hx => by
   obtain ⟨h1, h2, h3, h4⟩ := h
   by_cases hd : d = 0
   · subst hd
     have : x ∈ l := by
      have e : flat (0 + 1) (.node nm l ks) = l := rfl
      rw [e] at hx; exact hx
     exact h3 x this
   · rw [if_neg hd] at h4
     have e : flat (d + 1) (.node nm l ks) = inter l (ks.map (flat d)) := by show (if d = 0 then _ else _) = _; rw [if_neg hd]
     rw [e] at hx
     have key : ∀ (l : List KV) (fs : List (List KV)), (∀ x ∈ l, KVok x) → (∀ f ∈ fs, ∀ x ∈ f, KVok x) → ∀ x ∈ interT l fs, KVok x := by
      intro l
      induction l with
      | nil => intro fs _ _ x hx; simp [interT] at hx
      | cons y l ih =>
        intro fs hl hf x hx
        cases fs with
        | nil => simp [interT] at hx
        | cons f fs =>
          simp only [interT, List.cons_append] at hx
          rcases List.mem_cons.1 hx with rfl | hx
          · exact hl _ (by simp)
          · rcases List.mem_append.1 hx with hx | hx
            · exact hf f (by simp) x hx
            · exact ih fs (fun a ha => hl a (List.mem_cons_of_mem _ ha)) (fun a ha => hf a (List.mem_cons_of_mem _ ha)) x hx
     have hfs : ∀ f ∈ ks.map (flat d), ∀ x ∈ f, KVok x := fun f hf x hx => by
      obtain ⟨k, hk, rfl⟩ := List.mem_map.1 hf
      exact zfj (h4.2 k hk) x hx
     cases hm : ks.map (flat d) with
     | nil => rw [hm] at hx; simp [inter] at hx
     | cons f fs =>
       rw [hm] at hx hfs
       simp only [inter] at hx
       rcases List.mem_append.1 hx with hx | hx
       · exact hfs f (by simp) x hx
       · exact key l fs h3 (fun a ha => hfs a (List.mem_cons_of_mem _ ha)) x hx
theorem TreeAt.ok {c : Nat → Nat} {r rn rm : Nat} {w : World} {tp : Nat} {Z : TSt} {k : Nat} (h : TreeAt c r rn rm w tp Z k) : ∀ x ∈ rootL Z.now, KVok x := by
 obtain ⟨st, lm, km, nr, lr, gv, ov, sn, h⟩ := h
 have := h.now.sh
 cases hz : Z.now with
 | none => intro x hx; simp [rootL] at hx
 | some p => rw [hz] at this; exact zfj this
def KeysAt (w : World) (v : Value) (ks : List Bs) : Prop := ∃ A c, v = .slice A ks.length c ∧ ks.length ≤ c ∧ c ≤ maxLen ∧ ∀ (i : Nat) (h : i < ks.length), ∃ g o kv, A = some ⟨g, o, none⟩ ∧ w.cell? ⟨g, o + i, none⟩ = some kv ∧ BytesAt (fun _ => True) w kv ks[i]
theorem zfk {c0 c : Nat → Nat} {w0 w : World} {v : Value} {l : Bs} (h : BytesAt (fun _ => True) w0 v l) (h0 : ∀ b, c0 b = 0) (hf : Fr C0 w0 w) (ha : Ag w0.heap.size c0 c) : BytesAt (Dt c) w v l :=
 (h.mono (F' := Dt c) (fun b _ hl => (ha b hl).trans (h0 b))).fr0 hf
theorem zfl {w : World} {c : Nat → Nat} (hc : Cl w c) (l : List Nat) : ∃ q, (∀ k, c k ≠ q) ∧ q ≠ 0 ∧ ∀ a ∈ l, q ≠ a := by
 have h : ∀ n, ∃ M, ∀ k, k < n → c k ≤ M := by
  intro n
  induction n with
  | zero => exact ⟨0, fun k h => absurd h (by omega)⟩
  | succ n ih =>
    obtain ⟨M, h⟩ := ih
    refine ⟨M + c n, fun k hk => ?_⟩
    by_cases e : k = n
    · subst e; omega
    · have := h k (by omega); omega
 obtain ⟨M, h⟩ := h w.heap.size
 refine ⟨M + sumN l + 1, fun k e => ?_, by omega, fun a ha => by have := z70 ha; omega⟩
 by_cases hk : k < w.heap.size
 · have := h k hk; omega
 · have := hc k (by omega); omega
theorem zfm {F : Nat → Prop} {w : World} : BytesAt F w (.slice none 0 0) [] := ⟨none, 0, rfl, Nat.le_refl _, by unfold maxLen; omega, fun h => absurd rfl h⟩
end
section
open Go.RowKit Go.H Go.ChangeShapes Go.WideShapes Go.ChangeAt Go.Deep
theorem zfn {n : Int} (h : (Lit.int .u8 n).wf = true) : Value.int .u8 n = bv (UInt8.ofNat n.toNat) := by
 have : 0 ≤ n ∧ n ≤ 255 := by simpa [Lit.wf, IntKind.min, IntKind.max, IntKind.signed, IntKind.bits] using h
 unfold bv
 congr 1
 have h2 : (UInt8.ofNat n.toNat).toNat = n.toNat % 2 ^ 8 := UInt8.toNat_ofNat'
 rw [h2]
 omega
theorem zfo {w : World} {A : Option Addr} {L C : Nat} {zs : List Int} (h1 : L ≤ C) (h2 : C ≤ maxLen) (h3 : zs.length = C) (hw : ∀ n ∈ zs, (Lit.int .u8 n).wf = true) (h0 : A = none → C = 0) (hc : ∀ a, A = some a → ∀ c, c < C → w.cell? (a.add c) = some (.int .u8 (zs.getD c 0))) : BytesAt (fun _ => True) w (.slice A L C) ((zs.take L).map fun n => UInt8.ofNat n.toNat) := by
 refine ⟨A, C, by simp [h3, Nat.min_eq_left h1], by simp [h3]; omega, h2, fun hne => ?_⟩
 have hL : 0 < L := by
  apply Nat.pos_of_ne_zero
  rintro rfl
  exact hne (by simp)
 cases A with
 | none => exact absurd (h0 rfl) (by omega)
 | some a =>
   have hz := hc a rfl 0 (by omega)
   obtain ⟨g, o, sp⟩ := a
   have hsp : sp = none := by simpa [Addr.add] using World.cell?_spot hz
   subst hsp
   refine ⟨g, o, rfl, trivial, fun j hj => ?_⟩
   have hj' : j < L := by simp [h3] at hj; omega
   have hcj := hc _ rfl j (by omega)
   rw [add_plain] at hcj
   rw [hcj]
   have hjz : j < zs.length := by omega
   simp only [List.getElem_map, List.getElem_take]
   have e2 : zs.getD j 0 = zs[j] := by simp [List.getD, List.getElem?_eq_getElem hjz]
   rw [e2]
   congr 1
   exact zfn (hw _ (List.getElem_mem hjz))
section
variable {H : Type} {enc : TypeId × Value → H} {P : Program} {w : World} {base : Nat}
end
theorem zfp : ownKnob Tryz.prog.godebug = none := by kernel_rfl
theorem zfq : laidOutB Tryz.prog = true := by kernel_rfl
theorem zfr : Tryz.prog.cellsOf 5 = 1 := by kernel_rfl
theorem zfs : Tryz.prog.cellsOf 30 = 1 := by kernel_rfl
end
end Go.Proofs.YtcmicdcikechkaaGreat
