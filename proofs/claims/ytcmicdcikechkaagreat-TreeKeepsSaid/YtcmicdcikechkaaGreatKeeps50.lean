/- TreeKeeps returns true for every input, and leaves what came in as it was. No condition. -/
import Derived.Test.YtcmicdcikechkaaGreatKeeps49
import Derived.Test.YtcmicdcikechkaaGreatKeeps36
set_option linter.all false
namespace Go.Proofs.YtcmicdcikechkaaGreat
section
open Go.RowKit Go.H
set_option maxHeartbeats 1000000
set_option maxRecDepth 100000
structure FitsK (w0 : World) (k : Nat) (Z : TSt) : Prop where
 num : Z.S.num ≤ k
 now : (rootL Z.now).length ≤ k
 last : (rootL Z.last).length ≤ k
 pages : Z.S.pages = 198
 dk : Z.S.dk = w0.heap.size + 1
structure KAt (w0 : World) (tp : Nat) (La Ll : List KV) (k : Nat) (c : Nat → Nat) (w : World) : Prop where
 ex : ∃ Z, Stg (fun _ => 0) w0 1 2 3 c w tp Z 0 ∧ rootL Z.now = La ∧ rootL Z.last = Ll ∧ FitsK w0 k Z
structure K2 (w0 : World) (tp : Nat) (nv kv : Value) (La Ll : List KV) (k : Nat) (w : World) : Prop where
 ex : ∃ c, KAt w0 tp La Ll k c w ∧ PairsAt (Dt c) w nv La ∧ PairsAt (Dt c) w kv Ll
structure KF (w0 : World) (dn : Bool) (nv kv : Value) (La Ll : List KV) (k : Nat) (w : World) : Prop where
 ex : ∃ c m D num o, Fr C0 w0 w ∧ Ag w0.heap.size (fun _ => 0) c ∧ LooseIn c 1 2 w (w0.heap.size + 1) m (.slice none 0 0) D False num o ∧ D.down = dn ∧ D.blocks = 200 ∧ num ≤ k ∧ (rootL o = Ll ∨ rootL o = La) ∧ La.length ≤ k ∧ Ll.length ≤ k ∧ PairsAt (Dt c) w nv La ∧ PairsAt (Dt c) w kv Ll
variable {w0 w w' : World} {tp k : Nat} {nv kv : Value} {La Ll : List KV} {c c' : Nat → Nat}
theorem KAt.le {k' : Nat} (h : KAt w0 tp La Ll k c w) (hk : k ≤ k') : KAt w0 tp La Ll k' c w := by
 obtain ⟨Z, a, b, e, i⟩ := h
 exact ⟨Z, a, b, e, ⟨Nat.le_trans i.num hk, Nat.le_trans i.now hk, Nat.le_trans i.last hk, i.pages, i.dk⟩⟩
theorem KAt.fr0 (h : KAt w0 tp La Ll k c w) (hf : Fr C0 w w') : KAt w0 tp La Ll k c w' := by
 obtain ⟨Z, a, b, e, i⟩ := h
 exact ⟨Z, a.fr0 hf, b, e, i⟩
theorem KAt.cl (h : KAt w0 tp La Ll k c w) : Cl w c := by
 obtain ⟨Z, a, _⟩ := h
 exact a.tr.cl
theorem KAt.fr (h : KAt w0 tp La Ll k c w) : Fr C0 w0 w := by
 obtain ⟨Z, a, _⟩ := h
 exact a.fr
theorem KAt.len (h : KAt w0 tp La Ll k c w) : La.length ≤ k := by
 obtain ⟨Z, a, b, e, i⟩ := h
 rw [← b]; exact i.now
theorem KAt.sorted (h : KAt w0 tp La Ll k c w) : Sorted La := by
 obtain ⟨Z, a, b, _⟩ := h
 rw [← b]; exact a.tr.bk.sn
theorem KAt.came {F : Nat → Prop} {v : Value} {l : Bs} (h : KAt w0 tp La Ll k c w) (hv : BytesAt F w0 v l) : BytesAt (Dt c) w v l := by
 obtain ⟨Z, a, _⟩ := h
 exact zfk (hv.mono fun _ _ _ => trivial) (fun _ => rfl) a.fr a.ag
theorem K2.le {k' : Nat} (h : K2 w0 tp nv kv La Ll k w) (hk : k ≤ k') : K2 w0 tp nv kv La Ll k' w := by
 obtain ⟨c, a, b⟩ := h
 exact ⟨c, a.le hk, b⟩
theorem K2.fr0 (h : K2 w0 tp nv kv La Ll k w) (hf : Fr C0 w w') : K2 w0 tp nv kv La Ll k w' := by
 obtain ⟨c, a, b, d⟩ := h
 exact ⟨c, a.fr0 hf, b.fr0 hf, d.fr0 hf⟩
theorem K2.fr (h : K2 w0 tp nv kv La Ll k w) : Fr C0 w0 w := by
 obtain ⟨c, a, b, d⟩ := h
 exact a.fr
theorem K2.cl (h : K2 w0 tp nv kv La Ll k w) : ∃ c, Cl w c := by
 obtain ⟨c, a, b, d⟩ := h
 exact ⟨c, a.cl⟩
theorem zjh {kv vv : Value} {x : KV} (h : KAt w0 tp La Ll k c w) (hk : BytesAt (Dt c) w kv x.1) (hv : BytesAt (Dt c) w vv x.2) (hw : wrong x.1 x.2 = 0) (hk4 : k ≤ 90) :
 Calls Tryz.prog 10 #[.pointer (some ⟨tp, 0, none⟩), kv, vv] w fun e w' => e = .returned (.int .i64 0) ∧ Hid (∃ c', KAt w0 tp (putL x La) Ll (k + 1) c' w' ∧ Fr (OwnR 1 c) w w' ∧ Ag w.heap.size c c') := by
 obtain ⟨Z, a, rfl, rfl, i⟩ := h
 have h1 := zf4 a.tr.bk a.tr.shl
 have h2 := i.now
 have h3 := i.last
 have h4 := i.pages
 refine (zff (x := x) (ziw (by omega)) a.tr hk hv hw (by omega) (by omega)).mono ?_
 rintro e' w' ⟨rfl, f, c', o', g', ag, t, e1⟩
 exact ⟨rfl, zhd ⟨c', ⟨_, a.next (no_r (by omega)) f ag t, e1, rfl, ⟨by have := i.num; show Z.S.num ≤ _; omega, by show (rootL o').length ≤ _; rw [e1, zbm a.tr.bk.sn]; split <;> omega, by show (rootL Z.last).length ≤ _; omega, h4, i.dk⟩⟩, f, ag⟩⟩
theorem zji {kv : Value} {x : Bs} (h : KAt w0 tp La Ll k c w) (hk : BytesAt (Dt c) w kv x) (hw : wrong x [] = 0) (hk4 : k ≤ 90) :
 Calls Tryz.prog 12 #[.pointer (some ⟨tp, 0, none⟩), kv] w fun e w' => e = .returned (.tuple #[.bool (getL x La).isSome, .int .i64 0]) ∧ Hid (∃ c', KAt w0 tp (delL x La) Ll k c' w' ∧ Fr (OwnR 1 c) w w' ∧ Ag w.heap.size c c') := by
 obtain ⟨Z, a, rfl, rfl, i⟩ := h
 have h1 := zf4 a.tr.bk a.tr.shl
 have h2 := i.now
 have h3 := i.last
 have h4 := i.pages
 have h6 := (zg9 x (rootL Z.now)).length_le
 refine (zi9 (ziw (by omega)) a.tr hk hw).mono ?_
 rintro e' w' (⟨hg, rfl, f⟩ | ⟨hg, ⟨rfl, f, o', e1, e2, e3, e4⟩ | ⟨rfl, f, c', o', g', ag, t, e1⟩⟩)
 · refine ⟨by rw [hg]; rfl, zhd ⟨c, ?_, f.mono (fun _ _ e => e.elim), fun _ _ => rfl⟩⟩
   rw [zg8 hg]
   exact ⟨Z, a.fr0 f, rfl, rfl, i⟩
 · have h5 := zbw e2
   rw [e1] at h5
   omega
 · refine ⟨by cases hh : getL x (rootL Z.now) with | none => exact absurd hh hg | some _ => rfl, zhd ?_⟩
   have f' : Fr (OwnR 1 c) w w' := f.mono (fun _ _ e => .inl e)
   exact ⟨c', ⟨_, a.next (no_r (by omega)) f' ag t, e1, rfl, ⟨i.num, by show (rootL o').length ≤ _; rw [e1]; omega, h3, h4, i.dk⟩⟩, f', ag⟩
theorem zjj {xv vv : Value} {x v : Bs} (h : K2 w0 tp nv kv La Ll k w) (hk : BytesAt (fun _ => True) w0 xv x) (hv : BytesAt (fun _ => True) w0 vv v) (hw : wrong x v = 0) (hk4 : k ≤ 90) :
 Calls Tryz.prog 10 #[.pointer (some ⟨tp, 0, none⟩), xv, vv] w fun e w' => e = .returned (.int .i64 0) ∧ Hid (∃ c', KAt w0 tp (putL (x, v) La) Ll (k + 1) c' w' ∧ PairsAt (Dt c') w' nv La ∧ PairsAt (Dt c') w' kv Ll ∧ BytesAt (Dt c') w' xv x ∧ BytesAt (Dt c') w' vv v) := by
 obtain ⟨c, a, b, d⟩ := h
 have hkc := a.came hk
 have hvc := a.came hv
 refine (zjh (x := (x, v)) a hkc hvc hw hk4).mono ?_
 rintro e w' ⟨rfl, H⟩
 obtain ⟨c', a', f, ag⟩ := H.out
 exact ⟨rfl, zhd ⟨c', a', zit zix b f ag, zit zix d f ag, zfe zix hkc f ag, zfe zix hvc f ag⟩⟩
theorem zjk {xv vv : Value} {x v : Bs} (h : K2 w0 tp nv kv La Ll k w) (hk : BytesAt (fun _ => True) w0 xv x) (hv : BytesAt (fun _ => True) w0 vv v) (hw : wrong x v ≠ 0) :
 Calls Tryz.prog 10 #[.pointer (some ⟨tp, 0, none⟩), xv, vv] w fun e w' => e = .returned (.int .i64 (wrong x v)) ∧ Hid (K2 w0 tp nv kv La Ll k w') := by
 obtain ⟨c, a, b, d⟩ := h
 obtain ⟨Z, s, e1, e2, i⟩ := a
 refine (zfa s.tr (zfk hk (fun _ => rfl) s.fr s.ag) (zfk hv (fun _ => rfl) s.fr s.ag) hw).mono ?_
 rintro e w' ⟨rfl, f⟩
 exact ⟨rfl, zhd ⟨c, ⟨Z, s.fr0 f, e1, e2, i⟩, b.fr0 f, d.fr0 f⟩⟩
theorem zjl {xv : Value} {x : Bs} (h : K2 w0 tp nv kv La Ll k w) (hk : BytesAt (fun _ => True) w0 xv x) (hw : wrong x [] = 0) (hk4 : k ≤ 90) :
 Calls Tryz.prog 12 #[.pointer (some ⟨tp, 0, none⟩), xv] w fun e w' => ∃ b : Int, e = .returned (.tuple #[.bool (decide (b = 1)), .int .i64 0]) ∧ Hid (∃ c', KAt w0 tp (delL x La) Ll k c' w' ∧ PairsAt (Dt c') w' nv La ∧ PairsAt (Dt c') w' kv Ll ∧ BytesAt (Dt c') w' xv x) := by
 obtain ⟨c, a, b, d⟩ := h
 have hkc := a.came hk
 refine (zji a hkc hw hk4).mono ?_
 rintro e w' ⟨rfl, H⟩
 obtain ⟨c', a', f, ag⟩ := H.out
 exact ⟨if (getL x La).isSome then 1 else 0, by cases (getL x La).isSome <;> rfl, zhd ⟨c', a', zit zix b f ag, zit zix d f ag, zfe zix hkc f ag⟩⟩
theorem zjm {xv : Value} {x : Bs} (h : K2 w0 tp nv kv La Ll k w) (hk : BytesAt (fun _ => True) w0 xv x) (hw : wrong x [] ≠ 0) :
 Calls Tryz.prog 12 #[.pointer (some ⟨tp, 0, none⟩), xv] w fun e w' => e = .returned (.tuple #[.bool false, .int .i64 (wrong x [])]) ∧ Hid (K2 w0 tp nv kv La Ll k w') := by
 obtain ⟨c, a, b, d⟩ := h
 obtain ⟨Z, s, e1, e2, i⟩ := a
 obtain ⟨st, lm, km, nr, lr, gv, ov, sn, t⟩ := s.tr
 refine (zi6 t.hd (zfk hk (fun _ => rfl) s.fr s.ag) hw).mono ?_
 rintro e w' ⟨rfl, f⟩
 exact ⟨rfl, zhd ⟨c, ⟨Z, s.fr0 f, e1, e2, i⟩, b.fr0 f, d.fr0 f⟩⟩
theorem zjn {L : List KV} {rv : Value} (h : KAt w0 tp L Ll k c w) (hd : PairsAt (Dt c) w kv Ll) (hf : Fr C0 w w') (hp : PairsAt (fun b => Dt c b ∨ w.heap.size ≤ b) w' rv L) : K2 w0 tp rv kv L Ll k w' :=
 ⟨c, h.fr0 hf, ziv h.cl hp, hd.fr0 hf⟩
theorem zjo (h : K2 w0 tp nv kv La Ll k w) : Calls Tryz.prog 26 #[.pointer (some ⟨w0.heap.size + 1, 0, none⟩)] w fun e w' => e = .returned (.bool false) ∧ w = w' := by
 obtain ⟨c, a, b, d⟩ := h
 obtain ⟨Z, s, e1, e2, i⟩ := a
 obtain ⟨st, lm, km, nr, lr, gv, ov, sn, t⟩ := s.tr
 obtain ⟨sm, d', m, ov', q⟩ := t.hd.store
 have hd := q.dk.trans i.dk
 subst hd
 have := z35 q.disk
 rw [t.hd.alive.down] at this
 exact this
theorem zjp {a kp tn ct : Int} (h : K2 w0 tp nv kv La Ll k w) :
 Calls Tryz.prog 23 #[.pointer (some ⟨w0.heap.size + 1, 0, none⟩), .agg #[.int .i64 a, .int .u64 kp, .int .i64 tn, .int .i64 ct]] w fun e w' => e = .returned (.tuple #[]) ∧ Hid (K2 w0 tp nv kv La Ll k w') := by
 obtain ⟨c, a, b, d⟩ := h
 obtain ⟨Z, s, e1, e2, i⟩ := a
 rw [← i.dk]
 refine (zj2 zix s.tr).mono ?_
 rintro e w' ⟨rfl, H⟩
 obtain ⟨f, t⟩ := H.out
 have f' : Fr (fun b => c b = 1 ∨ c b = 2 ∨ c b = 3) w w' := f.mono (fun _ _ e => .inl e)
 exact ⟨rfl, zhd ⟨c, ⟨_, s.next no123' f' (Ag.refl _ _) t, e1, e2, ⟨i.num, i.now, i.last, i.pages, i.dk⟩⟩, zit zix b f' (Ag.refl _ _), zit zix d f' (Ag.refl _ _)⟩⟩
theorem zjq (h : K2 w0 tp nv kv La Ll k w) (hk4 : k ≤ 90) :
 Calls Tryz.prog 11 #[.pointer (some ⟨tp, 0, none⟩)] w fun e w' => (e = .returned (.int .i64 0) ∧ Hid (K2 w0 tp nv nv La La (k + 1) w')) ∨ (e = .returned (.int .i64 20) ∧ Hid (KF w0 true nv kv La Ll (k + 1) w')) := by
 obtain ⟨c, a, b, d⟩ := h
 obtain ⟨Z, s, rfl, rfl, i⟩ := a
 have h1 := i.num
 have h2 := i.now
 have h3 := i.last
 refine (zez zix s.tr (by omega)).mono ?_
 rintro e w' ⟨err, rfl, H⟩
 obtain ⟨f, (⟨rfl, c', Z1, ag, t, e1, e2, e3, e4, e5, e6, e7, e8, -⟩ | ⟨rfl, hf⟩)⟩ := H.out
 · refine .inl ⟨rfl, zhd ⟨c', ⟨Z1, s.next no123' f ag t, e1, by rw [e2, e1], ⟨by omega, by rw [e1]; omega, by rw [e2, e1]; omega, by rw [e5]; exact i.pages, by rw [e8]; exact i.dk⟩⟩, zit zix b f ag, zit zix b f ag⟩⟩
 · have hp := i.pages
   have hsz : Z.D.blocks = 200 := by
    obtain ⟨st, lm, km, nr, lr, gv, ov, sn, t⟩ := s.tr
    have := t.hd.alive.size
    omega
   obtain ⟨c', m, D', num, o, ag, lo, hd, hb, hc⟩ := zis s.tr hf (by omega) (by omega) (by omega)
   rw [i.dk] at lo
   have hs := s.fr.size
   refine .inr ⟨rfl, zhd ⟨c', m, D', num, o, s.fr.trans f (fun b' hb' e => ?_), fun b' hb' => (ag b' (by omega)).trans (s.ag b' hb'), lo, hd, by omega, ?_, ?_, by omega, by omega, zit zix b f ag, zit zix d f ag⟩⟩
   · have h6 : c b' = 0 := s.ag b' hb'
     rcases e with e | e | e <;> omega
   · rcases hc with ⟨rfl, _⟩ | ⟨rfl, _⟩ <;> omega
   · rcases hc with ⟨_, hc⟩ | ⟨_, hc⟩
     · exact .inl hc
     · exact .inr hc
theorem zjr {dn : Bool} (h : KF w0 dn nv kv La Ll k w) : Calls Tryz.prog 26 #[.pointer (some ⟨w0.heap.size + 1, 0, none⟩)] w fun e w' => e = .returned (.bool dn) ∧ w = w' := by
 obtain ⟨c, m, D, num, o, a1, a2, lo, hd, h'⟩ := h
 have := z35 lo.disk
 rw [hd] at this
 exact this
theorem zjs (h : KF w0 true nv kv La Ll k w) : Calls Tryz.prog 27 #[.pointer (some ⟨w0.heap.size + 1, 0, none⟩)] w fun e w' => e = .returned (.tuple #[]) ∧ Hid (KF w0 false nv kv La Ll k w') := by
 obtain ⟨c, m, D, num, o, a1, a2, lo, hd, hb, b1, b2, b3, b4, b5, b6⟩ := h
 refine (zj0 lo.disk lo.dm (fun e => by have := lo.od; have e' : c (w0.heap.size + 1) = 0 := e; omega) (fun b e => by simp [Value.ownBlock] at e)).mono ?_
 rintro e w' ⟨rfl, d4, f4⟩
 have f' : Fr (fun b => c b = 1 ∨ c b = 2 ∨ c b = 3) w w' := f4.mono (fun b _ e => .inl (by rw [e]; exact lo.od))
 have lo' := lo.like d4 (lo.cl.mono f4.size) lo.od lo.om (fun b e => by simp [Value.ownBlock] at e) (fun b e => by simp [Value.ownBlock] at e) lo.opn rfl rfl lo.after
 refine ⟨rfl, zhd ⟨c, m, _, num, o, a1.trans f' (fun b' hb' e => ?_), a2, lo', rfl, hb, b1, b2, b3, b4, zit zix b5 f' (Ag.refl _ _), zit zix b6 f' (Ag.refl _ _)⟩⟩
 have h6 : c b' = 0 := a2 b' hb'
 rcases e with e | e | e <;> omega
structure K3 (w0 : World) (tp : Nat) (Lo : List KV) (nv kv : Value) (La Ll : List KV) (k : Nat) (w : World) : Prop where
 ex : ∃ c, KAt w0 tp Lo Lo k c w ∧ PairsAt (Dt c) w nv La ∧ PairsAt (Dt c) w kv Ll
theorem K3.fr0 {Lo : List KV} (h : K3 w0 tp Lo nv kv La Ll k w) (hf : Fr C0 w w') : K3 w0 tp Lo nv kv La Ll k w' := by
 obtain ⟨c, a, b, d⟩ := h
 exact ⟨c, a.fr0 hf, b.fr0 hf, d.fr0 hf⟩
theorem zjt (h : KF w0 false nv kv La Ll k w) :
 Calls Tryz.prog 28 #[.pointer (some ⟨w0.heap.size + 1, 0, none⟩)] w fun e w' => ∃ tp, e = .returned (.tuple #[.pointer (some ⟨tp, 0, none⟩), .int .i64 0]) ∧ Hid (∃ Lo, (Lo = Ll ∨ Lo = La) ∧ K3 w0 tp Lo nv kv La Ll k w') := by
 obtain ⟨c, m, D, num, o, a1, a2, lo, hd, hb, b1, b2, b3, b4, b5, b6⟩ := h
 refine (lo.open_ zix hd).mono ?_
 rintro e w' ⟨f, hh⟩
 have f' : Fr (fun b => c b = 1 ∨ c b = 2 ∨ c b = 3) w w' := f.mono (fun b _ e => .inl e)
 rcases hh with ⟨hx, _⟩ | ⟨tp, c', Z, rfl, ag, t, e1, e2, e3, e4, e5, e6⟩
 · exact hx.elim
 · have hs := a1.size
   have hlo : (rootL o).length ≤ k := by rcases b2 with b2 | b2 <;> rw [b2] <;> assumption
   refine ⟨tp, rfl, zhd ⟨rootL o, b2, c', ⟨Z, ⟨a1.trans f' (fun b' hb' e => ?_), fun b' hb' => (ag b' (by omega)).trans (a2 b' hb'), t⟩, by rw [e2], by rw [e3], ⟨by omega, by rw [e2]; exact hlo, by rw [e3]; exact hlo, by omega, e6⟩⟩, zit zix b5 f' ag, zit zix b6 f' ag⟩⟩
   have h6 : c b' = 0 := a2 b' hb'
   rcases e with e | e | e <;> omega
theorem zju {Lo : List KV} (h : K3 w0 tp Lo nv kv La Ll k w) : Calls Tryz.prog 18 #[.pointer (some ⟨tp, 0, none⟩)] w fun e w' => e = .returned (.int .i64 0) ∧ Fr C0 w w' := by
 obtain ⟨c, a, b, d⟩ := h
 obtain ⟨Z, s, e1, e2, i⟩ := a
 exact zek zix s.tr
theorem zjv {Lo : List KV} (h : K3 w0 tp Lo nv kv La Ll k w) (hk3 : k ≤ 900) :
 Calls Tryz.prog 21 #[.pointer (some ⟨tp, 0, none⟩), .slice none 0 0, .slice none 0 0, .int .i64 999] w fun e w' => ∃ A cp, e = .returned (.tuple #[.slice A Lo.length cp, .int .i64 0]) ∧ Hid (K3 w0 tp Lo nv kv La Ll k w' ∧ PairsAt (fun _ => True) w' (.slice A Lo.length cp) Lo) := by
 obtain ⟨c, a, b, d⟩ := h
 obtain ⟨Z, s, rfl, e2, i⟩ := a
 obtain ⟨q, hq1, hq2, hq3⟩ := zfl s.tr.cl [1, 2, 3]
 refine (zf7 (n := 999) hq2 (hq3 1 (by simp)) (hq3 2 (by simp)) hq1 (by omega) s.tr zfm zfm (by simp) (by simp)).mono ?_
 rintro e' w' ⟨f, v', c', rfl, ag, cl, o⟩
 have hl : (rangeL [] [] (rootL Z.now)).take 999 = rootL Z.now := by
  have := i.now
  rw [zil, List.take_of_length_le (by omega)]
 rw [hl] at o
 obtain ⟨A, cp, rfl, -⟩ := o.form
 exact ⟨A, cp, rfl, zhd ⟨⟨c', ⟨Z, s.move f ag cl, rfl, e2, i⟩, ziu b f ag, ziu d f ag⟩, OutAt.pairs o (fun _ _ _ => trivial)⟩⟩
theorem zjw (h : K3 w0 tp Ll nv kv La Ll k w) : K2 w0 tp kv kv Ll Ll k w := by
 obtain ⟨c, a, b, d⟩ := h
 exact ⟨c, a, d, d⟩
theorem zjx (h : K3 w0 tp La nv kv La Ll k w) : K2 w0 tp nv nv La La k w := by
 obtain ⟨c, a, b, d⟩ := h
 exact ⟨c, a, b, b⟩
end
section
open Go.RowKit Go.H
set_option maxHeartbeats 4000000
set_option maxRecDepth 100000
theorem zjy {w w1 : World} {c : Nat → Nat} {tp : Nat} (h : At1 w 198 1 (w.heap.size + 1) tp [] [] 0 0 c w1) : K2 w tp (.slice none 0 0) (.slice none 0 0) [] [] 0 w1 := by
 obtain ⟨Z, a, b, e, i⟩ := h
 exact ⟨c, ⟨Z, a, b, e, ⟨by rw [i.num]; exact Nat.le_refl _, i.now, i.last, i.pages, i.dk⟩⟩, ⟨[], Row.nil _ _ _, .nil⟩, ⟨[], Row.nil _ _ _, .nil⟩⟩
theorem zjz {w : World} {av : Value} {acts : List ActV} (hk : ActsAt w av acts) :
 Calls Tryz.prog 5 #[av] w fun e w' => e = .returned (.bool true) ∧ Fr C0 w w' := by
 have HOP := zhd (ziz (w0 := w) (w := w) (c := fun _ => 0) (r := 1) (n := 200) (by omega) (by omega) (by omega) (Fr.refl _ _) (fun _ _ => rfl) (fun _ _ => rfl))
 obtain ⟨KA, kc, rfl, hk1, hk2, hk3⟩ := hk
 have HK3 := zhd hk3
 unfold maxLen at hk2
 clear hk3
 go_enter Tryz.func5, Tryz.ntmps5
 go_wp2_with fail
 refine HOP.out.mono ?_
 rintro e w1 ⟨tp, rfl, H1⟩
 have P1 : Hid (K2 w tp (.slice none 0 0) (.slice none 0 0) [] [] 0 w1) := zhd (by
  obtain ⟨-, c, -, a⟩ := H1.out
  exact zjy a)
 clear HOP H1
 go_wp2_with fail
 go_loopw [4, 5, 6, 7] (fun tv nv kv i wr => ∃ k : Nat, k ≤ 60 ∧ i = .int .i64 (k : Int) ∧ ∃ tp An cn Ln Ak ck Lk, tv = .pointer (some ⟨tp, 0, none⟩) ∧ nv = .slice An Ln.length cn ∧ kv = .slice Ak Lk.length ck ∧ Hid (K2 w tp (.slice An Ln.length cn) (.slice Ak Lk.length ck) Ln Lk k wr)) (fun _ _ _ i _ => 60 - (intOf i).toNat)
 case atStart => exact ⟨0, by omega, rfl, tp, none, 0, [], none, 0, [], rfl, rfl, rfl, P1⟩
 case round =>
  obtain ⟨k, hk, rfl, tp, An, cn, Ln, Ak, ck, Lk, rfl, rfl, rfl, HP⟩ := hrel
  clear P1
  by_cases hlt : k < acts.length ∧ k < 60
  · obtain ⟨hlt1, hlt2⟩ := hlt
    have hP := HP.out
    have HPP := zhd hP
    obtain ⟨g, o, kv, vv, hKA, hact⟩ := HK3.out k hlt1
    subst hKA
    have h1 : (k : Int) < (acts.length : Int) := by omega
    have h2 : (k : Int) < 60 := by omega
    generalize acts[k] = x at *
    obtain ⟨kd, nn, key, val, af, kp, tn, ct⟩ := x
    have q0 := hP.fr.cell0 hact.c0
    have q1 := hP.fr.cell0 hact.c1
    have q2 := hP.fr.cell0 hact.c2
    have q3 := hP.fr.cell0 hact.c3
    have q4 := hP.fr.cell0 hact.c4
    have q5 := hP.fr.cell0 hact.c5
    have q6 := hP.fr.cell0 hact.c6
    have q7 := hP.fr.cell0 hact.c7
    obtain ⟨A1, n1, rfl, hn1, hn2⟩ := hact.key.form
    obtain ⟨A2, n2, rfl, hn3, hn4⟩ := hact.value.form
    have HKV := zhd (And.intro hact.key hact.value)
    simp only [] at q0 q1 q2 q3 q4 q5 q6 q7 hn1 hn3
    clear hact hP HP
    go_upto_region 9 with fail
    have HB : Hid ((wr.alloc (.cells #[.int .i64 kd, .int .i64 nn, .slice A1 key.length n1, .slice A2 val.length n2, .int .i64 af, .int .u64 kp, .int .i64 tn, .int .i64 ct] 43)).heap[wr.heap.size]? = some _) := zhd (heap_alloc_new wr (.cells #[.int .i64 kd, .int .i64 nn, .slice A1 key.length n1, .slice A2 val.length n2, .int .i64 af, .int .u64 kp, .int .i64 tn, .int .i64 ct] 43))
    have HPA := zhd (HPP.out.fr0 ((Fr.refl C0 wr).alloc (.cells #[.int .i64 kd, .int .i64 nn, .slice A1 key.length n1, .slice A2 val.length n2, .int .i64 af, .int .u64 kp, .int .i64 tn, .int .i64 ct] 43)))
    clear HPP q0 q1 q2 q3 q4 q5 q6 q7
    generalize wr.alloc (.cells #[.int .i64 kd, .int .i64 nn, .slice A1 key.length n1, .slice A2 val.length n2, .int .i64 af, .int .u64 kp, .int .i64 tn, .int .i64 ct] 43) = wa at *
    generalize wr.heap.size = bx at *
    have b0 : wa.cell? ⟨bx, 0, none⟩ = some (.int .i64 kd) := z2e HB.out 0 rfl
    have b2 : wa.cell? ⟨bx, 2, none⟩ = some (.slice A1 key.length n1) := z2e HB.out 2 rfl
    have b3 : wa.cell? ⟨bx, 3, none⟩ = some (.slice A2 val.length n2) := z2e HB.out 3 rfl
    have b4 : wa.cell? ⟨bx, 4, none⟩ = some (.int .i64 af) := z2e HB.out 4 rfl
    have b5 : wa.cell? ⟨bx, 5, none⟩ = some (.int .u64 kp) := z2e HB.out 5 rfl
    have b6 : wa.cell? ⟨bx, 6, none⟩ = some (.int .i64 tn) := z2e HB.out 6 rfl
    have b7 : wa.cell? ⟨bx, 7, none⟩ = some (.int .i64 ct) := z2e HB.out 7 rfl
    unfold maxLen at hn2 hn4
    obtain ⟨m, hm64, hml, hmm⟩ : ∃ m : Nat, m ≤ 64 ∧ m ≤ key.length ∧ (if (64 : Int) < (key.length : Int) then (64 : Int) else (key.length : Int)) = (m : Int) := ⟨min key.length 64, by omega, by omega, by split <;> omega⟩
    obtain ⟨m2, hm200, hml2, hmm2⟩ : ∃ m : Nat, m ≤ 200 ∧ m ≤ val.length ∧ (if (200 : Int) < (val.length : Int) then (200 : Int) else (val.length : Int)) = (m : Int) := ⟨min val.length 200, by omega, by omega, by split <;> omega⟩
    have hmc : (m : Int) ≤ (n1 : Int) := by omega
    have hmc2 : (m2 : Int) ≤ (n2 : Int) := by omega
    refine z1r (Fr C0 wa) [] (by kernel_rfl) ?_
    have hSw0 : (Fr C0 wa) _ := (Fr.refl C0 wa).drew
    refine tk 0 hSw0 ?_
    refine tk 1 hSw0 ?_ (hy := by intro w_ hS_; have c2 := hS_.cell0 b2; have c3 := hS_.cell0 b3; first | (go_simp; done) | (go_simp; with_reducible rfl))
    refine tk 2 hSw0 ?_
    refine tk 3 hSw0 ?_ (hy := by intro w_ hS_; have c2 := hS_.cell0 b2; have c3 := hS_.cell0 b3; first | (go_simp; done) | (go_simp; with_reducible rfl))
    refine tk 4 hSw0 ?_ (hy := by intro w_ hS_; have c2 := hS_.cell0 b2; have c3 := hS_.cell0 b3; first | (go_simp; done) | (go_simp; with_reducible rfl))
    refine tk 5 hSw0 ?_ (hy := by intro w_ hS_; have c2 := hS_.cell0 b2; have c3 := hS_.cell0 b3; first | (go_simp; done) | (go_simp; with_reducible rfl))
    refine tk 6 hSw0 ?_
    refine tk 7 hSw0 ?_
    refine tk 8 hSw0 ?_ (hy := by intro w_ hS_; have c2 := hS_.cell0 b2; have c3 := hS_.cell0 b3; first | (go_simp; done) | (go_simp; with_reducible rfl))
    refine tk 9 hSw0 ?_
    refine tk 10 hSw0 ?_ (hy := by intro w_ hS_; have c2 := hS_.cell0 b2; have c3 := hS_.cell0 b3; first | (go_simp; done) | (go_simp; with_reducible rfl))
    refine tk 11 hSw0 ?_ (hy := by intro w_ hS_; have c2 := hS_.cell0 b2; have c3 := hS_.cell0 b3; first | (go_simp; done) | (go_simp; with_reducible rfl))
    refine tk 12 hSw0 ?_ (hy := by intro w_ hS_; have c2 := hS_.cell0 b2; have c3 := hS_.cell0 b3; first | (go_simp; done) | (go_simp; with_reducible rfl))
    refine tk 13 hSw0 ?_
    refine tk 14 hSw0 ?_
    refine tk 15 hSw0 ?_
    refine z1q (by kernel_rfl) ?_ _
    have HPD := zhd (HPA.out.fr0 (Fr.refl C0 wa).drew)
    have HKD := zhd (HKV.out.1.take hml)
    have HVD := zhd (HKV.out.2.take hml2)
    have HKL : Hid ((key.take m).length = m) := zhd (by rw [List.length_take]; omega)
    have HVL : Hid ((val.take m2).length = m2) := zhd (by rw [List.length_take]; omega)
    clear HB HPA HKV b2 b3 hmm hmm2
    by_cases hk1 : kd = 10
    · subst hk1
      have HAR := zhd (zjp (a := af) (kp := kp) (tn := tn) (ct := ct) HPD.out)
      clear HKD HVD HKL HVL HPD
      go_wp2_with fail
      refine HAR.out.mono ?_
      rintro e w3 ⟨rfl, HK⟩
      clear HAR b0 b4 b5 b6 b7
      have HDW := zhd (zjo HK.out)
      go_wp2_with fail
      refine HDW.out.mono ?_
      rintro e w9 ⟨rfl, rfl⟩
      clear HDW
      go_wp2
      go_roundw
      case rel => exact ⟨k + 1, by omega, by go_num, tp, An, cn, Ln, Ak, ck, Lk, rfl, rfl, rfl, zhd (HK.out.le (by omega))⟩
      case measure => simp [intOf]; omega
    · have hk1b : (kd == 10) = false := beq_false_of_ne hk1
      clear b4 b5 b6 b7
      by_cases hk4 : kd = 4
      · subst hk4
        have HCM := zhd (zjq HPD.out (by omega))
        clear HKD HVD HKL HVL HPD
        go_wp2_with fail
        refine HCM.out.mono ?_
        rintro e w3 (⟨rfl, HK⟩ | ⟨rfl, HKF⟩)
        · clear HCM b0
          have HDW := zhd (zjo HK.out)
          go_wp2_with fail
          refine HDW.out.mono ?_
          rintro e w9 ⟨rfl, rfl⟩
          clear HDW
          go_wp2
          go_roundw
          case rel => exact ⟨k + 1, by omega, by go_num, tp, An, cn, Ln, An, cn, Ln, rfl, rfl, rfl, zhd (HK.out.le (by omega))⟩
          case measure => simp [intOf]; omega
        · have HDW := zhd (zjr HKF.out)
          have HRS := zhd (zjs HKF.out)
          clear HCM b0 HKF
          go_wp2_with fail
          refine HDW.out.mono ?_
          rintro e w9 ⟨rfl, rfl⟩
          clear HDW
          go_wp2_with fail
          refine HRS.out.mono ?_
          rintro e w4 ⟨rfl, H4⟩
          have HOQ := zhd (zjt H4.out)
          clear HRS H4
          go_wp2_with fail
          refine HOQ.out.mono ?_
          rintro e w5 ⟨tp2, rfl, H5⟩
          obtain ⟨Lo, hlo, h5⟩ := H5.out
          have HLO := zhd hlo
          have HCK := zhd (zju h5)
          have HK5 := zhd h5
          clear HOQ H5 hlo h5
          go_wp2_with fail
          refine HCK.out.mono ?_
          rintro e w6 ⟨rfl, f6⟩
          have HRG := zhd (zjv (HK5.out.fr0 f6) (by omega))
          clear HCK HK5 f6
          go_wp2_with fail
          refine HRG.out.mono ?_
          rintro e w7 ⟨RA, rc, rfl, H7⟩
          obtain ⟨h7, p7⟩ := H7.out
          obtain ⟨c7, a7, n7, k7⟩ := id h7
          have HS1 := zhd (zey p7 k7)
          have HS2 := zhd (fun (w_ : World) (hf : Fr C0 w7 w_) => zey (p7.fr0 hf) (n7.fr0 hf))
          have HK7 := zhd h7
          clear HRG H7 h7 p7 a7 n7 k7
          by_cases hll : Lo = Lk
          · subst hll
            rw [decide_eq_true rfl] at HS1
            clear HS2
            go_wp2_with fail
            refine HS1.out.mono ?_
            rintro e w8 ⟨rfl, f8⟩
            have HK8 := zhd (zjw (HK7.out.fr0 f8))
            clear HS1 f8 HK7
            go_wp2
            go_roundw
            case rel => exact ⟨k + 1, by omega, by go_num, tp2, Ak, ck, Lo, Ak, ck, Lo, rfl, rfl, rfl, zhd (HK8.out.le (by omega))⟩
            case measure => simp [intOf]; omega
          · have hln : Lo = Ln := HLO.out.resolve_left hll
            rw [decide_eq_false hll] at HS1
            clear HLO hll
            subst hln
            have HS2' : Hid (∀ w_, Fr C0 w7 w_ → Calls Tryz.prog 22 #[.slice RA Lo.length rc, .slice An Lo.length cn] w_ fun e w' => e = .returned (.bool true) ∧ Fr C0 w_ w') := zhd (fun w_ hf => by have := HS2.out w_ hf; rw [decide_eq_true rfl] at this; exact this)
            clear HS2
            go_wp2_with fail
            refine HS1.out.mono ?_
            rintro e w8 ⟨rfl, f8⟩
            have F8 := zhd f8
            clear HS1 f8
            go_wp2_with fail
            refine (HS2'.out _ F8.out).mono ?_
            rintro e w10 ⟨rfl, f10⟩
            have HK8 := zhd (zjx (HK7.out.fr0 (F8.out.trans0 f10)))
            clear HS2' f10 HK7 F8
            go_wp2
            go_roundw
            case rel => exact ⟨k + 1, by omega, by go_num, tp2, An, cn, Lo, An, cn, Lo, rfl, rfl, rfl, zhd (HK8.out.le (by omega))⟩
            case measure => simp [intOf]; omega
      · have hk4b : (kd == 4) = false := beq_false_of_ne hk4
        by_cases hk5 : kd = 1
        · subst hk5
          by_cases hw : wrong (key.take m) [] = 0
          · have HD1 := zhd (zjl HPD.out HKD.out hw (by omega))
            have HSL : Hid (Sorted Ln ∧ Ln.length ≤ 100000) := zhd (by obtain ⟨c9, a9, _⟩ := HPD.out; have := a9.len; exact ⟨a9.sorted, by omega⟩)
            clear HKD HVD HVL HPD hw
            go_wp2_with fail
            refine HD1.out.mono ?_
            rintro e w3 ⟨bb, rfl, H3⟩
            obtain ⟨c3, a3, n3, q3, x3⟩ := H3.out
            have HLD := zhd (zjg HSL.out.1 n3 x3 HSL.out.2)
            have HA3 := zhd (And.intro a3 q3)
            clear HD1 H3 a3 n3 q3 x3 b0
            go_wp2_with fail
            refine HLD.out.mono ?_
            rintro e w4 ⟨A4, c4, rfl, H4⟩
            have HK := zhd (zjn HA3.out.1 HA3.out.2 H4.out.1 H4.out.2)
            clear HLD HA3 H4
            have HDW := zhd (zjo HK.out)
            go_wp2_with fail
            refine HDW.out.mono ?_
            rintro e w9 ⟨rfl, rfl⟩
            clear HDW
            go_wp2
            go_roundw
            case rel => exact ⟨k + 1, by omega, by go_num, tp, A4, c4, _, Ak, ck, Lk, rfl, rfl, rfl, zhd (HK.out.le (by omega))⟩
            case measure => simp [intOf]; omega
          · have HD1 := zhd (zjm HPD.out HKD.out hw)
            have hz0 : ¬ ((wrong (key.take m) [] : Nat) : Int) = 0 := by omega
            have hzb : (((wrong (key.take m) [] : Nat) : Int) == 0) = false := beq_false_of_ne hz0
            clear HKD HVD HVL HPD hw HKL
            generalize ((wrong (key.take m) [] : Nat) : Int) = z at *
            go_wp2_with fail
            refine HD1.out.mono ?_
            rintro e w3 ⟨rfl, HK⟩
            clear HD1 b0
            have HDW := zhd (zjo HK.out)
            go_wp2_with fail
            refine HDW.out.mono ?_
            rintro e w9 ⟨rfl, rfl⟩
            clear HDW
            go_wp2
            go_roundw
            case rel => exact ⟨k + 1, by omega, by go_num, tp, An, cn, Ln, Ak, ck, Lk, rfl, rfl, rfl, zhd (HK.out.le (by omega))⟩
            case measure => simp [intOf]; omega
        · have hk5b : (kd == 1) = false := beq_false_of_ne hk5
          by_cases hw : wrong (key.take m) (val.take m2) = 0
          · have HD1 := zhd (zjj HPD.out HKD.out HVD.out hw (by omega))
            have hln : Ln.length ≤ 100000 := by obtain ⟨c9, a9, _⟩ := HPD.out; have := a9.len; omega
            clear HKD HVD HPD hw
            go_wp2_with fail
            refine HD1.out.mono ?_
            rintro e w3 ⟨rfl, H3⟩
            obtain ⟨c3, a3, n3, q3, x3, y3⟩ := H3.out
            have HLD := zhd (zik (x := (key.take m, val.take m2)) n3 x3 y3 (by rw [HKL.out]; omega) (by rw [HVL.out]; omega) hln)
            have HA3 := zhd (And.intro a3 q3)
            clear HD1 H3 a3 n3 q3 x3 y3 b0 hln
            go_wp2_with fail
            refine HLD.out.mono ?_
            rintro e w4 ⟨A4, c4, rfl, H4⟩
            have HK := zhd (zjn HA3.out.1 HA3.out.2 H4.out.1 H4.out.2)
            clear HLD HA3 H4
            have HDW := zhd (zjo HK.out)
            go_wp2_with fail
            refine HDW.out.mono ?_
            rintro e w9 ⟨rfl, rfl⟩
            clear HDW
            go_wp2
            go_roundw
            case rel => exact ⟨k + 1, by omega, by go_num, tp, A4, c4, _, Ak, ck, Lk, rfl, rfl, rfl, zhd (HK.out.le (by omega))⟩
            case measure => simp [intOf]; omega
          · have HD1 := zhd (zjk HPD.out HKD.out HVD.out hw)
            have hz0 : ¬ ((wrong (key.take m) (val.take m2) : Nat) : Int) = 0 := by omega
            have hzb : (((wrong (key.take m) (val.take m2) : Nat) : Int) == 0) = false := beq_false_of_ne hz0
            clear HKD HVD HPD hw HKL HVL
            generalize ((wrong (key.take m) (val.take m2) : Nat) : Int) = z at *
            go_wp2_with fail
            refine HD1.out.mono ?_
            rintro e w3 ⟨rfl, HK⟩
            clear HD1 b0
            have HDW := zhd (zjo HK.out)
            go_wp2_with fail
            refine HDW.out.mono ?_
            rintro e w9 ⟨rfl, rfl⟩
            clear HDW
            go_wp2
            go_roundw
            case rel => exact ⟨k + 1, by omega, by go_num, tp, An, cn, Ln, Ak, ck, Lk, rfl, rfl, rfl, zhd (HK.out.le (by omega))⟩
            case measure => simp [intOf]; omega
  · have hex : ¬ (k : Int) < (acts.length : Int) ∨ (k : Int) < (acts.length : Int) ∧ ¬ (k : Int) < 60 := by omega
    have HTD := zhd (by obtain ⟨cx, hcx⟩ := HP.out.cl; exact zfh hcx)
    clear hlt
    rcases hex with h1 | ⟨h1, h2⟩
    all_goals
     go_wp2_with fail
     refine HTD.out.mono ?_
     rintro e w7 ⟨rfl, f7⟩
     have F7 := zhd (HP.out.fr.trans0 f7)
     clear f7
     go_wp2
     go_ret
     exact ⟨rfl, F7.out⟩
end
section
open Go.RowKit Go.H Go.ChangeShapes Go.WideShapes Go.ChangeAt Go.Deep
set_option maxRecDepth 100000 in
theorem zk0 (os : Os) (started : os.Started) (H : Type) (enc : TypeId × Value → H) :
 ReturnsInHanded {} Tryz.checked os 5 .any (Rows.treeKeepsSpec.pre6 enc Tryz.prog Tryz.f5 Rows.treeKeepsRow.domain false) (Rows.treeKeepsSpec.post enc Tryz.prog Tryz.f5 false true false false) := by
 refine returnsInHanded_of_change (C := Tryz.checked) zfp started (by kernel_rfl) Tryz.func5
  (ChangeSpec.witness6 (enc := enc) (C := Tryz.checked) false ⟨#[], #[.slice none 0 0], []⟩ 8 (by kernel_rfl) (by kernel_rfl) (by kernel_rfl) (by kernel_rfl)) ?_
 intro W base args ds gs before hval0 hW hcnd _
 have hval : ∀ (j : Nat) t v, (Tryz.f5).params[j]? = some t → args[j]? = some v → Value.okWide Tryz.prog W .any base t v := hval0
 have hW' := hW
 obtain ⟨p, q, hA0, hV, rfl, hfz, hnd⟩ := hW
 have hA : DataW.TrodAll enc Tryz.prog W 0 (fun _ => true) true (Tryz.f5).params.toList args.toList ds p := hA0
 rw [Tryz.params5] at hA hval
 obtain ⟨v0, vs0, d0, ds0, p0, q0, hargs, rfl, rfl, h0, r0⟩ := trodAll_cons hA
 obtain ⟨rfl, rfl, rfl⟩ := trodAll_nil r0
 obtain rfl : args = #[v0] := by cases args; simp_all
 obtain ⟨rfl, rfl⟩ := trodVars_none hV
 obtain ⟨acts, hk⟩ := zje (hval 0 38 v0 rfl rfl) h0
 refine (zjz hk).mono fun e W' ⟨he, hf⟩ => ?_
 subst he
 exact ⟨_, rfl, z01 zfq (by decide +kernel) rfl rfl Tryz.underlying4 hW' rfl hf⟩
theorem zk1 : Rows.treeKeepsRow.holds Tryz.pinned (OpenSpec.ofChange Rows.treeKeepsSpec) :=
 OpenClaim.holds_of_wide 5 Tryz.f5 rfl rfl rfl rfl rfl rfl rfl ⟨rfl, rfl, rfl, rfl, rfl⟩ rfl rfl rfl rfl rfl (by kernel_rfl) Tryz.func5 (by kernel_rfl)
  (of_decide_eq_true (by kernel_rfl)) (by unfold Func.isWrapper; first | (rw [if_pos (by decide +kernel)]; kernel_rfl) | (rw [if_neg (by decide +kernel)]; exact ⟨rfl, rfl⟩))
  (fun os started H enc _ => zk0 os started H enc)
theorem tree_keeps : Rows.TreeKeepsSaid := zk1
end
end Go.Proofs.YtcmicdcikechkaaGreat
