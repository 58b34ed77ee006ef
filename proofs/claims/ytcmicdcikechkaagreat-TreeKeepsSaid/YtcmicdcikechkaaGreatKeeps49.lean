import Derived.Test.YtcmicdcikechkaaGreatKeeps47
import Derived.Test.YtcmicdcikechkaaGreatKeeps48
import Derived.Test.YtcmicdcikechkaaGreatKeeps05
import Derived.Test.YtcmicdcikechkaaGreatKeeps36
import Derived.Test.YtcmicdcikechkaaGreatKeeps39
set_option linter.all false
namespace Go.Proofs.YtcmicdcikechkaaGreat
set_option maxRecDepth 100000
section
open Go.RowKit Go.H
set_option maxHeartbeats 2000000
theorem TreeAt.moveC {C : Nat → Prop} {c c' : Nat → Nat} {r rn rm : Nat} {w w' : World} {tp : Nat} {Z : TSt} {k : Nat} (h : TreeAt c r rn rm w tp Z k) (hf : Fr C w w') (ha : Ag w.heap.size c c') (hc : Cl w' c') (h0 : ∀ b, C b → c' b ≠ 0) (h1 : ∀ b, C b → c' b ≠ r) (h2 : ∀ b, C b → c' b ≠ rn) (h3 : ∀ b, C b → c' b ≠ rm) : TreeAt c' r rn rm w' tp Z k := by
 obtain ⟨st, lm, km, nr, lr, gv, ov, sn, h⟩ := h
 have hgo : ∀ b, gv.ownBlock = some b → c' b = r := fun b hb => (ha b (h.gr.lt b hb).2).trans (h.go b hb)
 have hoo : ∀ b, ov.ownBlock = some b → c' b = rm := fun b hb => (ha b (h.orow.lt b hb).2).trans (h.oo b hb)
 have hlm : c' lm = rm := (ha _ h.live.lt).trans h.lmo
 have hkm : c' km = rm := (ha _ h.kept.lt).trans h.kmo
 have hhd := h.hd.ag ha
 exact ⟨st, lm, km, nr, lr, gv, ov, sn, hhd.fr hf h1 h0, hc, hf.blk h.blk (fun e => h1 _ e hhd.own), z0m h.gr hf (fun b hb e => h1 b e (hgo b hb)), hgo, z0m h.orow hf (fun b hb e => h3 b e (hoo b hb)), hoo, h.live.fr hf (fun e => h3 _ e hlm), hlm, h.kept.fr hf (fun e => h3 _ e hkm), hkm, h.lk, (h.now.ag ha).fr hf h2 h0, (h.last.ag ha).fr hf h2 h0, h.bk⟩
def OX (r r' : Nat) : Prop := 1 ≤ r ∧ 1 ≤ r' ∧ (r + 3 ≤ r' ∨ r' + 3 ≤ r)
theorem OX.swap {r r' : Nat} (h : OX r r') : OX r' r := ⟨h.2.1, h.1, h.2.2.symm⟩
end
section
open Go.RowKit Go.H
set_option maxHeartbeats 1000000
theorem zit {c c' : Nat → Nat} {r rn rm : Nat} {w w' : World} {v : Value} {L : List KV} (ho : Owners r rn rm) (h : PairsAt (Dt c) w v L) (hf : Fr (fun b => c b = r ∨ c b = rn ∨ c b = rm) w w') (ha : Ag w.heap.size c c') : PairsAt (Dt c') w' v L :=
 ((h.mono (F' := fun b => c b = 0 ∧ b < w.heap.size) (fun b hb hl => ⟨hb, hl⟩)).fr hf (fun b hb e => by rcases e with e | e | e; exact ho.r0 (e.symm.trans hb.1); exact ho.n0 (e.symm.trans hb.1); exact ho.m0 (e.symm.trans hb.1))).mono (fun b hb _ => (ha b hb.2).trans hb.1)
theorem ziu {c c' : Nat → Nat} {w w' : World} {v : Value} {L : List KV} (h : PairsAt (Dt c) w v L) (hf : Fr C0 w w') (ha : Ag w.heap.size c c') : PairsAt (Dt c') w' v L :=
 (h.mono (F' := Dt c') (fun b hb hl => (ha b hl).trans hb)).fr0 hf
theorem ziv {c : Nat → Nat} {w w' : World} {v : Value} {L : List KV} (hc : Cl w c) (h : PairsAt (fun b => Dt c b ∨ w.heap.size ≤ b) w' v L) : PairsAt (Dt c) w' v L :=
 h.mono (fun b hb _ => hb.elim id (fun g => hc b g))
theorem ziw {r : Nat} (h : 1 ≤ r) : Owners r (r + 1) (r + 2) := ⟨by omega, by omega, by omega, by omega, by omega, by omega⟩
theorem no_r {r : Nat} (h : 1 ≤ r) : ∀ b : Nat, (fun _ => 0 : Nat → Nat) b ≠ r ∧ (fun _ => 0 : Nat → Nat) b ≠ r + 1 ∧ (fun _ => 0 : Nat → Nat) b ≠ r + 2 := fun b => by
 show 0 ≠ r ∧ 0 ≠ r + 1 ∧ 0 ≠ r + 2
 omega
theorem zix : Owners 1 2 3 := ziw (by omega)
theorem no123' : ∀ b : Nat, (fun _ => 0 : Nat → Nat) b ≠ 1 ∧ (fun _ => 0 : Nat → Nat) b ≠ 2 ∧ (fun _ => 0 : Nat → Nat) b ≠ 3 := fun b => by simp
structure FitsR (pn d N k : Nat) (Z : TSt) : Prop where
 num : Z.S.num = N
 now : (rootL Z.now).length ≤ k
 last : (rootL Z.last).length ≤ k
 pages : Z.S.pages = pn
 dk : Z.S.dk = d
 nk : N ≤ k
 af : Z.D.after < 1
structure At1 (w0 : World) (pn r d tp : Nat) (La Ll : List KV) (N k : Nat) (c : Nat → Nat) (w : World) : Prop where
 ex : ∃ Z, Stg (fun _ => 0) w0 r (r + 1) (r + 2) c w tp Z 0 ∧ rootL Z.now = La ∧ rootL Z.last = Ll ∧ FitsR pn d N k Z
abbrev OwnR (r : Nat) (c : Nat → Nat) : Nat → Prop := fun b => c b = r ∨ c b = r + 1 ∨ c b = r + 2
variable {w0 w w' : World} {pn r d tp N k : Nat} {La Ll : List KV} {c c' : Nat → Nat}
theorem At1.le {k' : Nat} (h : At1 w0 pn r d tp La Ll N k c w) (hk : k ≤ k') : At1 w0 pn r d tp La Ll N k' c w := by
 obtain ⟨Z, a, b, e, i⟩ := h
 exact ⟨Z, a, b, e, ⟨i.num, Nat.le_trans i.now hk, Nat.le_trans i.last hk, i.pages, i.dk, Nat.le_trans i.nk hk, i.af⟩⟩
theorem At1.fr0 (h : At1 w0 pn r d tp La Ll N k c w) (hf : Fr C0 w w') : At1 w0 pn r d tp La Ll N k c w' := by
 obtain ⟨Z, a, b, e, i⟩ := h
 exact ⟨Z, a.fr0 hf, b, e, i⟩
theorem At1.move (h : At1 w0 pn r d tp La Ll N k c w) (hf : Fr C0 w w') (ha : Ag w.heap.size c c') (hc : Cl w' c') : At1 w0 pn r d tp La Ll N k c' w' := by
 obtain ⟨Z, a, b, e, i⟩ := h
 exact ⟨Z, a.move hf ha hc, b, e, i⟩
theorem At1.fr (h : At1 w0 pn r d tp La Ll N k c w) : Fr C0 w0 w := by
 obtain ⟨Z, a, _⟩ := h
 exact a.fr
theorem At1.ag (h : At1 w0 pn r d tp La Ll N k c w) : Ag w0.heap.size (fun _ => 0) c := by
 obtain ⟨Z, a, _⟩ := h
 exact a.ag
theorem At1.cl (h : At1 w0 pn r d tp La Ll N k c w) : Cl w c := by
 obtain ⟨Z, a, _⟩ := h
 exact a.tr.cl
theorem At1.sorted (h : At1 w0 pn r d tp La Ll N k c w) : Sorted La := by
 obtain ⟨Z, a, b, _⟩ := h
 rw [← b]; exact a.tr.bk.sn
theorem At1.ok (h : At1 w0 pn r d tp La Ll N k c w) : ∀ x ∈ La, KVok x := by
 obtain ⟨Z, a, b, _⟩ := h
 rw [← b]; exact a.tr.ok
theorem At1.len (h : At1 w0 pn r d tp La Ll N k c w) : La.length ≤ k := by
 obtain ⟨Z, a, b, e, i⟩ := h
 rw [← b]; exact i.now
theorem At1.came {F : Nat → Prop} {v : Value} {l : Bs} (h : At1 w0 pn r d tp La Ll N k c w) (hv : BytesAt F w0 v l) : BytesAt (Dt c) w v l := zfk (hv.mono fun _ _ _ => trivial) (fun _ => rfl) h.fr h.ag
theorem ziy {r' : Nat} (hx : OX r r') (hc : Cl w c) (ha : Ag w.heap.size c c') {b : Nat} (e : OwnR r' c b) : r' ≤ c' b ∧ c' b ≤ r' + 2 := by
 have hx1 := hx.2.1
 have e' : c b = r' ∨ c b = r' + 1 ∨ c b = r' + 2 := e
 have hl : b < w.heap.size := by
  by_cases h : b < w.heap.size
  · exact h
  · have := hc b (by omega); omega
 rw [ha b hl]; omega
theorem At1.stay {r' : Nat} (h : At1 w0 pn r d tp La Ll N k c w) (hx : OX r r') (hf : Fr (OwnR r' c) w w') (ha : Ag w.heap.size c c') (hc : Cl w' c') : At1 w0 pn r d tp La Ll N k c' w' := by
 obtain ⟨Z, a, b, e, i⟩ := h
 have hX : ∀ b, OwnR r' c b → r' ≤ c' b ∧ c' b ≤ r' + 2 := fun b e => ziy hx a.tr.cl ha e
 have hs := a.fr.size
 obtain ⟨hx1, hx2, hx3⟩ := hx
 refine ⟨Z, ⟨a.fr.trans hf (fun b' hb e => ?_), fun b' hb => (ha b' (by omega)).trans (a.ag b' hb), a.tr.moveC hf ha hc (fun b e => ?_) (fun b e => ?_) (fun b e => ?_) (fun b e => ?_)⟩, b, e, i⟩
 · have h1 : c b' = 0 := a.ag b' hb
   have e' : c b' = r' ∨ c b' = r' + 1 ∨ c b' = r' + 2 := e
   omega
 all_goals
  have h1 := hX b e
  omega
theorem ziz {n : Nat} (hr : 1 ≤ r) (h1 : 3 ≤ n) (h2 : n ≤ 4096) (hf : Fr C0 w0 w) (ha : Ag w0.heap.size (fun _ => 0) c) (hc : Cl w c) :
 Calls Tryz.prog 8 #[.int .i64 (n : Int)] w fun e w' => ∃ tp, e = .returned (.tuple #[.pointer (some ⟨w.heap.size + 1, 0, none⟩), .pointer (some ⟨tp, 0, none⟩)]) ∧ Hid (Fr C0 w w' ∧ ∃ c', Ag w.heap.size c c' ∧ At1 w0 (n - 2) r (w.heap.size + 1) tp [] [] 0 0 c' w') := by
 refine (zfc (ziw hr) hc h1 h2).mono ?_
 rintro e w' ⟨tp, rfl, f, c', ag, t⟩
 have hs := hf.size
 exact ⟨tp, rfl, zhd ⟨f, c', ag, _, ⟨hf.trans0 f, fun b hb => (ag b (by omega)).trans (ha b hb), t⟩, rfl, rfl, rfl, Nat.le_refl _, Nat.le_refl _, rfl, rfl, Nat.le_refl _, by show (0 : Int) < 1; omega⟩⟩
structure Off1 (w0 : World) (pn r d : Nat) (X : Prop) (dn : Bool) (Ll : List KV) (N k : Nat) (c : Nat → Nat) (w : World) : Prop where
 fr : Fr C0 w0 w
 ag : Ag w0.heap.size (fun _ => 0) c
 ex : ∃ m ov D o, LooseIn c r (r + 1) w d m ov D X N o ∧ D.down = dn ∧ D.blocks = pn + 2 ∧ rootL o = Ll ∧ N ≤ k ∧ Ll.length ≤ k
theorem At1.off (h : At1 w0 pn r d tp La Ll N k c w) (h1 : 1 ≤ pn) (h2 : pn ≤ 4000) : Off1 w0 pn r d False false Ll N k c w := by
 obtain ⟨Z, a, rfl, rfl, i⟩ := h
 have h4 := i.pages
 obtain ⟨l1, l2, m, ov, l3⟩ := a.tr.loose i.af (by omega) (by omega)
 rw [i.dk, i.num] at l3
 exact ⟨a.fr, a.ag, m, ov, _, _, l3, l1, by omega, rfl, i.nk, i.last⟩
theorem Off1.fr0 {X : Prop} {dn : Bool} (h : Off1 w0 pn r d X dn Ll N k c w) (hf : Fr C0 w w') : Off1 w0 pn r d X dn Ll N k c w' := by
 obtain ⟨a, b, m, ov, D, o, l, h1⟩ := h
 exact ⟨a.trans0 hf, b, m, ov, D, o, l.fr0 hf, h1⟩
theorem Off1.cl {X : Prop} {dn : Bool} (h : Off1 w0 pn r d X dn Ll N k c w) : Cl w c := by
 obtain ⟨a, b, m, ov, D, o, l, h1⟩ := h
 exact l.cl
end
section
open Go.RowKit Go.H
set_option maxHeartbeats 2000000
theorem zj0 {F : Nat → Prop} {w : World} {d m : Nat} {ov : Value} {s : DSt} (h : DiskA F w d m ov s) (hdm : d ≠ m) (hdF : ¬ F d) (hov : ∀ b, ov.ownBlock = some b → b ≠ d) :
 Calls Tryz.prog 27 #[.pointer (some ⟨d, 0, none⟩)] w fun e w' => e = .returned (.tuple #[]) ∧ DiskA F w' d m ov { s with down := false } ∧ Fr (fun b => b = d) w w' := by
 have HD := zhd h
 have z := z2c 3 h.blk
 have c3 := z2e h.blk 3 rfl
 clear h
 go_enter Tryz.func27, Tryz.ntmps27
 go_wp2
 go_end0
 have FS : Fr (fun b => b = d) w (w.setCell ⟨d, 3, none⟩ (.bool false)) := (Fr.refl (fun b => b = d) w).setCell (.inr rfl) _
 have hb := z2d (i := 3) HD.out.blk (.bool false)
 refine ⟨rfl, ⟨hb, HD.out.kept.fr FS (fun h => hdm h.symm) (fun b hb h => hdF (h ▸ hb)), ?_, HD.out.small⟩, FS⟩
 obtain ⟨xs, o1, o2⟩ := HD.out.opn
 exact ⟨xs, z0m o1 FS hov, o2.fr FS (fun b hb h => hdF (h ▸ hb))⟩
end
section
open Go.RowKit Go.H
set_option maxHeartbeats 1000000
def DSt.armed (s : DSt) (a kp tn ct : Int) : DSt := { s with after := a, keep := kp, torn := tn, cut := ct }
theorem zj1 {F : Nat → Prop} {w : World} {d m : Nat} {ov : Value} {s : DSt} {a kp tn ct : Int} (h : DiskA F w d m ov s) (hd : s.down = false) (hdm : d ≠ m) (hdF : ¬ F d) (hov : ∀ b, ov.ownBlock = some b → b ≠ d) :
 Calls Tryz.prog 23 #[.pointer (some ⟨d, 0, none⟩), .agg #[.int .i64 a, .int .u64 kp, .int .i64 tn, .int .i64 ct]] w fun e w' => e = .returned (.tuple #[]) ∧ Hid (DiskA F w' d m ov (DSt.armed s a kp tn ct) ∧ Fr (fun b => b = d) w w') := by
 have F1' := (Fr.refl C0 w).alloc (.cells #[.int .i64 a, .int .u64 kp, .int .i64 tn, .int .i64 ct] 41)
 have F1 := zhd F1'
 have h := h.fr0 F1'
 have L0 := heap_alloc_new w (.cells #[.int .i64 a, .int .u64 kp, .int .i64 tn, .int .i64 ct] 41)
 have l1 := z2e L0 0 rfl
 have l2 := z2e L0 1 rfl
 have l3 := z2e L0 2 rfl
 have l4 := z2e L0 3 rfl
 have HD := zhd h
 have c3 := z2e h.blk 3 rfl
 have z5 := z2c 5 h.blk
 have z6 := z2c 6 h.blk
 have z7 := z2c 7 h.blk
 have z8 := z2c 8 h.blk
 have c5 := z2e h.blk 5 rfl
 have c6 := z2e h.blk 6 rfl
 have c7 := z2e h.blk 7 rfl
 have c8 := z2e h.blk 8 rfl
 rw [hd] at c3
 clear h F1' L0
 go_enter Tryz.func23, Tryz.ntmps23
 go_wp2_with fail
 go_end0
 generalize w.alloc (.cells #[.int .i64 a, .int .u64 kp, .int .i64 tn, .int .i64 ct] 41) = w1 at *
 have FS : Fr (fun b => b = d) w1 ((((w1.setCell ⟨d, 5, none⟩ (.int .i64 a)).setCell ⟨d, 6, none⟩ (.int .u64 kp)).setCell ⟨d, 7, none⟩ (.int .i64 tn)).setCell ⟨d, 8, none⟩ (.int .i64 ct)) := ((((Fr.refl (fun b => b = d) w1).setCell (.inr rfl) _).setCell (.inr rfl) _).setCell (.inr rfl) _).setCell (.inr rfl) _
 have hb := z2d (i := 8) (z2d (i := 7) (z2d (i := 6) (z2d (i := 5) HD.out.blk (.int .i64 a)) (.int .u64 kp)) (.int .i64 tn)) (.int .i64 ct)
 refine ⟨rfl, zhd ⟨⟨hb, HD.out.kept.fr FS (fun h => hdm h.symm) (fun b hb h => hdF (h ▸ hb)), ?_, HD.out.small⟩, (F1.out.mono (fun _ _ h => h.elim)).trans FS (fun _ _ h => h)⟩⟩
 obtain ⟨xs, o1, o2⟩ := HD.out.opn
 exact ⟨xs, z0m o1 FS hov, o2.fr FS (fun b hb h => hdF (h ▸ hb))⟩
theorem zj2 {c : Nat → Nat} {r rn rm : Nat} {w : World} {tp k : Nat} {Z : TSt} {a kp tn ct : Int} (ho : Owners r rn rm) (h : TreeAt c r rn rm w tp Z k) :
 Calls Tryz.prog 23 #[.pointer (some ⟨Z.S.dk, 0, none⟩), .agg #[.int .i64 a, .int .u64 kp, .int .i64 tn, .int .i64 ct]] w fun e w' => e = .returned (.tuple #[]) ∧ Hid (Fr (fun b => c b = r) w w' ∧ TreeAt c r rn rm w' tp { Z with D := DSt.armed Z.D a kp tn ct } k) := by
 obtain ⟨st, lm, km, nr, lr, gv, ov, sn, t⟩ := h
 obtain ⟨sm, d, m, ov', s⟩ := t.hd.store
 have hd := s.dk
 subst hd
 refine (zj1 s.disk t.hd.alive.down s.d_m (fun e => ho.r0 (s.od.symm.trans e)) s.ov_d).mono ?_
 rintro e w' ⟨rfl, H⟩
 obtain ⟨d1, f⟩ := H.out
 have htd : tp ≠ Z.S.dk := fun e => by have h1 := t.blk; rw [e, s.disk.blk] at h1; simp [TreeCells] at h1
 have hgd : ∀ b, gv.ownBlock = some b → ¬ b = Z.S.dk := fun b e h2 => by
  obtain ⟨cur, h3⟩ := z4s t.gr e
  rw [h2, s.disk.blk] at h3; injection h3 with h3; injection h3 with _ h3; exact absurd h3 (by decide)
 have hn : ∀ b, b = Z.S.dk → ∀ q, q ≠ r → c b ≠ q := fun b e q hq h2 => hq (h2.symm.trans (by rw [e]; exact s.od))
 have hn0 : ∀ b, b = Z.S.dk → c b ≠ 0 := fun b e => hn b e 0 (fun h => ho.r0 h.symm)
 have hnn : ∀ b, b = Z.S.dk → c b ≠ rn := fun b e => hn b e rn ho.nr
 have hnm : ∀ b, b = Z.S.dk → c b ≠ rm := fun b e => hn b e rm ho.mr
 have S1 : StoreIn c r w' st sm Z.S.dk m ov' Z.S (DSt.armed Z.D a kp tn ct) := ⟨f.blk s.blk s.st_d, s.map.fr f s.d_sm.symm, d1, s.ost, s.osm, s.od, s.om, s.oov, s.ne, s.dk⟩
 have hal := t.hd.alive
 have hbk := t.bk
 refine ⟨rfl, zhd ⟨f.mono fun b _ e => by rw [e]; exact s.od, st, lm, km, nr, lr, gv, ov, sn, ⟨f.cell t.hd.cell htd, ⟨sm, Z.S.dk, m, ov', S1⟩, ⟨hal.down, hal.life, hal.size, hal.small⟩, t.hd.own⟩, t.cl.mono f.size, f.blk t.blk htd, z0m t.gr f hgd, t.go, z0m t.orow f (fun b e h2 => hnm b h2 (t.oo b e)), t.oo, t.live.fr f (fun e => hnm _ e t.lmo), t.lmo, t.kept.fr f (fun e => hnm _ e t.kmo), t.kmo, t.lk, t.now.fr f hnn hn0, t.last.fr f hnn hn0, ⟨hbk.st, hbk.hn, hbk.ln, hbk.hl, hbk.hb, hbk.b1, hbk.b2, hbk.bc, hbk.lp, hbk.room, hbk.opn, ⟨hbk.ok.good, hbk.ok.opn⟩, hbk.sn, hbk.sl, hbk.num, hbk.bn, hbk.bl, hbk.head⟩⟩⟩
end
section
open Go.RowKit Go.H Go.ChangeShapes Go.WideShapes Go.ChangeAt Go.Deep
set_option maxHeartbeats 1000000
structure ActV where
 kind : Int
 n : Int
 key : Bs
 value : Bs
 after : Int
 keep : Int
 torn : Int
 cut : Int
instance : Inhabited ActV := ⟨⟨0, 0, [], [], 0, 0, 0, 0⟩⟩
structure ActAt (w : World) (g o : Nat) (kv vv : Value) (x : ActV) : Prop where
 c0 : w.cell? ⟨g, o, none⟩ = some (.int .i64 x.kind)
 c1 : w.cell? ⟨g, o + 1, none⟩ = some (.int .i64 x.n)
 c2 : w.cell? ⟨g, o + 2, none⟩ = some kv
 c3 : w.cell? ⟨g, o + 3, none⟩ = some vv
 c4 : w.cell? ⟨g, o + 4, none⟩ = some (.int .i64 x.after)
 c5 : w.cell? ⟨g, o + 5, none⟩ = some (.int .u64 x.keep)
 c6 : w.cell? ⟨g, o + 6, none⟩ = some (.int .i64 x.torn)
 c7 : w.cell? ⟨g, o + 7, none⟩ = some (.int .i64 x.cut)
 key : BytesAt (fun _ => True) w kv x.key
 value : BytesAt (fun _ => True) w vv x.value
 kw : -9223372036854775808 ≤ x.kind ∧ x.kind ≤ 9223372036854775807
 nw : -9223372036854775808 ≤ x.n ∧ x.n ≤ 9223372036854775807
def ActsAt (w : World) (v : Value) (l : List ActV) : Prop := ∃ A c, v = .slice A l.length c ∧ l.length ≤ c ∧ c ≤ maxLen ∧ ∀ (i : Nat) (h : i < l.length), ∃ g o kv vv, A = some ⟨g, o, none⟩ ∧ ActAt w g (o + i * 8) kv vv l[i]
theorem zj3 {w : World} {base : Nat} {a : Addr} {n : Nat} {cs : List Value} (h : w.cells? base a n = some cs) {i : Nat} (hi : i < n) {v : Value} (hv : cs[i]? = some v) : w.cell? (a.add i) = some v := by
 obtain ⟨h1, h2, h3⟩ := World.cells?_some h
 rw [h3 i hi, hv]
theorem zj4 {cs : List Value} (h : cs.length = 8) : ∃ a b c d e f g k, cs = [a, b, c, d, e, f, g, k] := by
 match cs, h with
 | [a, b, c, d, e, f, g, k], _ => exact ⟨a, b, c, d, e, f, g, k, rfl⟩
theorem zj5 {α : Type} {xs : List α} (h : xs.length = 4) : ∃ a b c d, xs = [a, b, c, d] := by
 match xs, h with
 | [a, b, c, d], _ => exact ⟨a, b, c, d, rfl⟩
theorem zj6 {α : Type} {xs : List α} (h : xs.length = 5) : ∃ a b c d e, xs = [a, b, c, d, e] := by
 match xs, h with
 | [a, b, c, d, e], _ => exact ⟨a, b, c, d, e, rfl⟩
section
variable {H : Type} {enc : TypeId × Value → H} {w : World} {base : Nat}
theorem zj7 {t e : TypeId} {fuel : Nat} {v : Value} {x : DataW H × List MemPlace} (ht : Tryz.prog.underlying t = some (.slice e)) (he : Tryz.prog.underlying e = some (.int .u8)) (hc : Tryz.prog.cellsOf e = 1) (h : DataW.trod enc Tryz.prog w 0 (fun _ => true) true fuel t [v] = some x) : ∃ l, BytesAt (fun _ => True) w v l := by
 rcases open_ints ht he hc h with ⟨hcs, -⟩ | ⟨a', len', cap', zs, hcs, hb, hl, hm, hz, hx, hcell, hwz⟩
 · simp only [List.cons.injEq, and_true] at hcs
   subst hcs
   exact ⟨[], none, 0, rfl, Nat.le_refl _, Nat.zero_le _, fun h => absurd rfl h⟩
 · simp only [List.cons.injEq, and_true] at hcs
   subst hcs
   simp only [if_true] at hz
   exact ⟨_, zfo (zs := zs) hl hm hz hwz (fun h => by cases h) (fun a' e c hc => by cases e; exact hcell c (by omega))⟩
theorem zj8 : Tryz.prog.cellsOf 43 = 8 := by kernel_rfl
theorem zj9 : Tryz.prog.cellsOf 41 = 4 := by kernel_rfl
theorem zja : Tryz.prog.cellsOf 3 = 1 := by kernel_rfl
theorem zjb : Tryz.prog.cellsOf 39 = 1 := by kernel_rfl
theorem zjc {m : Int} (h : (Lit.int .i64 m).wf = true) : -9223372036854775808 ≤ m ∧ m ≤ 9223372036854775807 := by simpa [Lit.wf, IntKind.min, IntKind.max, IntKind.signed, IntKind.bits] using h
theorem zjd {fuel g o : Nat} {cs : List Value} {x : DataW H × List MemPlace} (hc : w.cells? 0 ⟨g, o, none⟩ 8 = some cs) (h : DataW.trod enc Tryz.prog w 0 (fun _ => true) true fuel 43 cs = some x) : ∃ kv vv y, ActAt w g o kv vv y := by
 obtain ⟨xs, n, -, -, hl, hlen, hf⟩ := DataW.trod_struct Tryz.underlying43 h
 obtain ⟨a0, a1, a2, a3, a4, a5, a6, a7, rfl⟩ := zj4 (by rw [hl, zj8])
 obtain ⟨x0, x1, x2, x3, x4, rfl⟩ := zj6 (show xs.length = 5 from hlen)
 have f0 := hf 0 _ rfl
 have f1 := hf 1 _ rfl
 have f2 := hf 2 _ rfl
 have f3 := hf 3 _ rfl
 have f4 := hf 4 _ rfl
 simp only [zja, zfs, zj9, List.drop_zero, List.take_succ_cons, List.take_zero, List.drop_succ_cons, List.getElem?_cons_zero, List.getElem?_cons_succ] at f0 f1 f2 f3 f4
 obtain ⟨n0, e0, -, w0⟩ := DataW.trod_int Tryz.underlying3 f0
 obtain ⟨n1, e1, -, w1⟩ := DataW.trod_int Tryz.underlying3 f1
 obtain ⟨k, hk⟩ := zj7 Tryz.underlying30 Tryz.underlying5 zfr f2
 obtain ⟨v, hv⟩ := zj7 Tryz.underlying30 Tryz.underlying5 zfr f3
 obtain ⟨ys, n', -, -, hl', hlen', hf'⟩ := DataW.trod_struct Tryz.underlying41 f4
 obtain ⟨y0, y1, y2, y3, rfl⟩ := zj5 (show ys.length = 4 from hlen')
 have g0 := hf' 0 _ rfl
 have g1 := hf' 1 _ rfl
 have g2 := hf' 2 _ rfl
 have g3 := hf' 3 _ rfl
 simp only [zja, zjb, List.drop_zero, List.take_succ_cons, List.take_zero, List.drop_succ_cons, List.getElem?_cons_zero, List.getElem?_cons_succ] at g0 g1 g2 g3
 obtain ⟨m0, d0, -, -⟩ := DataW.trod_int Tryz.underlying3 g0
 obtain ⟨m1, d1, -, -⟩ := DataW.trod_int Tryz.underlying39 g1
 obtain ⟨m2, d2, -, -⟩ := DataW.trod_int Tryz.underlying3 g2
 obtain ⟨m3, d3, -, -⟩ := DataW.trod_int Tryz.underlying3 g3
 injection e0 with e0
 injection e1 with e1
 injection d0 with d0
 injection d1 with d1
 injection d2 with d2
 injection d3 with d3
 subst e0 e1 d0 d1 d2 d3
 have cc : ∀ i v, i < 8 → [(.int .i64 n0), .int .i64 n1, a2, a3, .int .i64 m0, .int .u64 m1, .int .i64 m2, .int .i64 m3][i]? = some v → w.cell? ⟨g, o + i, none⟩ = some v := fun i v hi hv => by
  have := zj3 hc hi hv
  rwa [add_plain] at this
 exact ⟨a2, a3, ⟨n0, n1, k, v, m0, m1, m2, m3⟩, cc 0 _ (by omega) rfl, cc 1 _ (by omega) rfl, cc 2 _ (by omega) rfl, cc 3 _ (by omega) rfl, cc 4 _ (by omega) rfl, cc 5 _ (by omega) rfl, cc 6 _ (by omega) rfl, cc 7 _ (by omega) rfl, hk, hv, zjc w0, zjc w1⟩
theorem zje {v : Value} {d : DataW H} {ps : List MemPlace} (hv : Value.okWide Tryz.prog w .any base 38 v) (h : DataW.Trod enc Tryz.prog w 0 (fun _ => true) true 38 v d ps) : ∃ l, ActsAt w v l := by
 obtain ⟨a, len, cap, rfl⟩ := okWide_slice Tryz.underlying38 hv
 obtain ⟨fuel, hf⟩ := h
 rcases open_slice Tryz.underlying38 hf with ⟨hcs, -⟩ | ⟨a', len', cap', m, n, D, Pl, hcs, hb, hl, hm, hmm, -, hx⟩
 · simp [Value.cells] at hcs
   obtain ⟨rfl, rfl, rfl⟩ := hcs
   exact ⟨[], none, 0, rfl, Nat.le_refl _, Nat.zero_le _, fun i h => absurd h (by simp)⟩
 · simp [Value.cells] at hcs
   obtain ⟨rfl, rfl, rfl⟩ := hcs
   simp only [if_true] at hmm
   subst hmm
   rw [zj8] at hx
   have each : ∀ i, i < m → ∃ g o kv vv y, a' = ⟨g, o, none⟩ ∧ ActAt w g (o + i * 8) kv vv y := fun i hi => by
    obtain ⟨cs', h1, h2⟩ := hx i hi
    obtain ⟨g, o, sp⟩ := a'
    have hsp : sp = none := by
     obtain ⟨cs0, h0, -⟩ := hx 0 (by omega)
     obtain ⟨q1, q2, q3⟩ := World.cells?_some h0
     have q4 := q3 0 (by omega)
     obtain ⟨u, hu⟩ : ∃ u, cs0[0]? = some u := ⟨cs0[0]'(by omega), List.getElem?_eq_getElem (by omega)⟩
     rw [hu] at q4
     simpa [Addr.add] using World.cell?_spot q4
    subst hsp
    rw [add_plain] at h1
    obtain ⟨kv, vv, y, hy⟩ := zjd h1 h2
    exact ⟨g, o, kv, vv, y, rfl, hy⟩
   have each2 : ∀ i, i < len → ∃ y : ActV, ∃ g o kv vv, a' = ⟨g, o, none⟩ ∧ ActAt w g (o + i * 8) kv vv y := fun i hi => by
    obtain ⟨g, o, kv, vv, y, e1, e2⟩ := each i (by omega)
    exact ⟨y, g, o, kv, vv, e1, e2⟩
   obtain ⟨Y, hY⟩ := choose_lt each2
   refine ⟨(List.range len).map Y, some a', m, by simp, by simpa using hl, hm, fun i hi => ?_⟩
   obtain ⟨g, o, kv, vv, e1, e2⟩ := hY i (by simpa using hi)
   exact ⟨g, o, kv, vv, by rw [e1], by simpa using e2⟩
end
end
section
open Go.RowKit Go.H
set_option maxHeartbeats 1000000
def putW (x v : Bs) (l : List KV) : List KV := if wrong x v = 0 then putL (x, v) l else l
def delW (x : Bs) (l : List KV) : List KV := if wrong x [] = 0 then delL x l else l
structure TwA (w0 : World) (r r' d d' tp tp' : Nat) (L Ll L' Ll' : List KV) (N N' k : Nat) (c : Nat → Nat) (w : World) : Prop where
 a : At1 w0 698 r d tp L Ll N k c w
 b : At1 w0 698 r' d' tp' L' Ll' N' k c w
variable {w0 w w' : World} {r r' d d' tp tp' N N' k : Nat} {L Ll L' Ll' : List KV} {c c' : Nat → Nat}
theorem TwA.swap (h : TwA w0 r r' d d' tp tp' L Ll L' Ll' N N' k c w) : TwA w0 r' r d' d tp' tp L' Ll' L Ll N' N k c w := ⟨h.b, h.a⟩
theorem TwA.fr0 (h : TwA w0 r r' d d' tp tp' L Ll L' Ll' N N' k c w) (hf : Fr C0 w w') : TwA w0 r r' d d' tp tp' L Ll L' Ll' N N' k c w' := ⟨h.a.fr0 hf, h.b.fr0 hf⟩
theorem TwA.le {k' : Nat} (h : TwA w0 r r' d d' tp tp' L Ll L' Ll' N N' k c w) (hk : k ≤ k') : TwA w0 r r' d d' tp tp' L Ll L' Ll' N N' k' c w := ⟨h.a.le hk, h.b.le hk⟩
structure StepA (r : Nat) (c : Nat → Nat) (w : World) (c' : Nat → Nat) (w' : World) : Prop where
 fr : Fr (OwnR r c) w w'
 ag : Ag w.heap.size c c'
theorem StepA.bytes {v : Value} {l : Bs} (hr : 1 ≤ r) (h : StepA r c w c' w') (hv : BytesAt (Dt c) w v l) : BytesAt (Dt c') w' v l :=
 ((hv.mono (F' := fun b => c b = 0 ∧ b < w.heap.size) (fun b hb hl => ⟨hb, hl⟩)).fr h.fr (fun b hb e => by
   have e' : c b = r ∨ c b = r + 1 ∨ c b = r + 2 := e
   have := hb.1
   omega)).mono (fun b hb _ => (h.ag b hb.2).trans hb.1)
def DBlk (c : Nat → Nat) (w : World) (b : Nat) (o : Obj) : Prop := w.heap[b]? = some o ∧ c b = 0
theorem StepA.blk {b : Nat} {o : Obj} (hr : 1 ≤ r) (h : StepA r c w c' w') (hb : DBlk c w b o) : DBlk c' w' b o := by
 have hl := (Array.getElem?_eq_some_iff.1 hb.1).1
 refine ⟨h.fr.blk hb.1 (fun e => ?_), (h.ag b hl).trans hb.2⟩
 have e' : c b = r ∨ c b = r + 1 ∨ c b = r + 2 := e
 have := hb.2
 omega
theorem DBlk.fr0 {b : Nat} {o : Obj} (hb : DBlk c w b o) (hf : Fr C0 w w') : DBlk c w' b o := ⟨hf.blk hb.1 (fun h => h), hb.2⟩
theorem TwA.step {L2 : List KV} {Ll2 : List KV} {N2 k2 tp2 : Nat} (hx : OX r r') (h : TwA w0 r r' d d' tp tp' L Ll L' Ll' N N' k c w) (ha : At1 w0 698 r d tp2 L2 Ll2 N2 k2 c' w') (hk : k ≤ k2) (hf : Fr (OwnR r c) w w') (hag : Ag w.heap.size c c') : TwA w0 r r' d d' tp2 tp' L2 Ll2 L' Ll' N2 N' k2 c' w' :=
 ⟨ha, (h.b.stay hx.swap hf hag ha.cl).le hk⟩
end
section
open Go.RowKit Go.H
set_option maxHeartbeats 2000000
theorem zjf {k : List UInt8} : ∀ {l : List KV}, Sorted l → (atB k l = true → delL k l = l.take (atN k l) ++ l.drop (atN k l + 1)) ∧ (atB k l = false → delL k l = l)
 | [], _ => ⟨fun h => by simp [atB] at h, fun _ => rfl⟩
 | y :: l, hs => by
   have h1 := List.pairwise_cons.1 hs
   have ih := zjf (k := k) h1.2
   have hsw := z6b k y.1
   simp only [delL, atN, atB]
   by_cases h : bcmp y.1 k < 0
   · simp only [if_pos h]
     rw [if_neg (by omega)]
     exact ⟨fun hb => by rw [ih.1 hb, List.take_succ_cons, List.drop_succ_cons]; rfl, fun hb => by rw [ih.2 hb]⟩
   · simp only [if_neg h]
     by_cases h2 : bcmp k y.1 = 0
     · have e := z6a h2
       rw [if_pos h2]
       exact ⟨fun _ => by simp, fun hb => absurd e.symm (of_decide_eq_false hb)⟩
     · rw [if_neg h2]
       refine ⟨fun hb => ?_, fun _ => ?_⟩
       · have := of_decide_eq_true hb
         rw [this, z69] at h2
         exact absurd rfl h2
       · congr 1
         refine zg8 (z6j fun z hz => ?_)
         have h3 := h1.1 z hz
         unfold klt at h3
         exact z6c (by omega) h3
theorem zjg {F : Nat → Prop} {w : World} {lv kv : Value} {l : List KV} {k : Bs} (hs : Sorted l) (hl : PairsAt F w lv l) (hk : BytesAt F w kv k) (hb : l.length ≤ 100000) :
 Calls Tryz.prog 24 #[lv, kv] w fun e w' => ∃ A c, e = .returned (.slice A (delL k l).length c) ∧ Hid (Fr C0 w w' ∧ PairsAt (fun b => F b ∨ w.heap.size ≤ b) w' (.slice A (delL k l).length c) (delL k l)) := by
 have HD := zhd (zjf (k := k) hs)
 have HAT := zhd (zii hl hk)
 have HL := zhd hl
 obtain ⟨A, ca, rfl, ha1, ha2⟩ := hl.form
 obtain ⟨B, cb, rfl, -⟩ := hk.form
 obtain ⟨xs, hr, hc⟩ := hl
 have HR := zhd (hr.mono (F' := fun b => b < w.heap.size) (fun _ _ h => h))
 have HC := zhd hc
 have H1 := zhd (zfi hc)
 have hN := zia k l
 have HLT := zhd (zib k l)
 unfold maxLen at ha2
 clear hk hr hc
 generalize hn : atN k l = N at *
 clear hn
 cases hbb : atB k l
 · rw [hbb] at HAT HD
   have HE : Hid (delL k l = l) := zhd (HD.out.2 rfl)
   clear hbb HLT
   rw [HE.out]
   go_enter Tryz.func24, Tryz.ntmps24
   go_wp2_with fail
   refine HAT.out.mono ?_
   rintro e w1 ⟨rfl, f1⟩
   have HF := zhd f1
   clear f1
   go_wp2
   go_ret
   exact ⟨A, ca, rfl, zhd ⟨HF.out, (HL.out.fr0 HF.out).mono (fun _ h _ => .inl h)⟩⟩
 · have hi : N + 1 ≤ l.length := HLT.out hbb
   rw [hbb] at HAT HD
   have HE : Hid (delL k l = l.take N ++ l.drop (N + 1)) := zhd (HD.out.1 rfl)
   have HEL : Hid ((delL k l).length = N + (l.length - (N + 1))) := zhd (by rw [HE.out]; simp; omega)
   have hw1 : IntKind.i64.wrap ((N : Int) + 1) = ((N + 1 : Nat) : Int) := by rw [z0t _ (by omega) (by omega)]; omega
   clear hbb HLT HD
   go_enter Tryz.func24, Tryz.ntmps24
   go_wp2_with fail
   refine HAT.out.mono ?_
   rintro e w1 ⟨rfl, f1⟩
   have F1 := zhd f1
   have hs1 := f1.size
   clear f1
   go_wp2_with (at_builtin; first
    | (refine z0l z2m rfl _ _ rfl (v := .slice none 0 0) (xv := .slice A N ca) rfl rfl (B := w.heap.size) (World.ownsRow_nil _ _ _ _) ((HR.out.take hN).fr0 F1.out) (z0p H1.out) (by unfold maxLen; omega) (by omega) (by omega) ?_
       intro v2 w2 o2 f2 k2 nil2
       rw [Nat.zero_add] at o2
       obtain ⟨A2, c2, rfl, -⟩ := z0o o2
       have F2 : Hid (Fr C0 w w2) := zhd (F1.out.trans f2 (fun b _ h => by simp [Value.ownBlock] at h))
       have O2 := zhd o2
       have hs2 := F2.out.size
       clear o2 f2 k2 nil2)
    | (refine z0l z2m rfl _ _ rfl (v := .slice A2 N c2) (xv := .slice (if ca = (N + 1) then A else A.map (·.add ((N + 1) * 3))) (l.length - (N + 1)) (ca - (N + 1))) rfl rfl (B := w.heap.size) O2.out ((HR.out.drop hi).fr0 F2.out) (z0q H1.out) (by unfold maxLen; omega) (by omega) hs2 ?_
       intro v6 w6 o6 f6 k6 nil6
       obtain ⟨A6, c6, rfl, -⟩ := z0o o6))
   all_goals
    have F6 : Fr C0 w w6 := F2.out.transO f6 (fun b e => (O2.out.lt b e).1)
    rw [HEL.out]
    go_ret
    refine ⟨A6, c6, rfl, zhd ⟨F6, ?_⟩⟩
    refine ⟨_, by rw [HEL.out]; exact Row.ofOwn o6 (fun b e => .inr (o6.lt b e).1), ?_⟩
    rw [HE.out, List.nil_append]
    have old := (HC.out.fr F6 (fun _ _ k => k)).mono (F' := fun b => F b ∨ w.heap.size ≤ b) (fun b h _ => .inl h)
    exact PairCells.append (PairCells.drop_ (N + 1) old) (PairCells.take_ N old)
end
end Go.Proofs.YtcmicdcikechkaaGreat
