import Derived.Test.YtcmicdcikechkaaGreatAgain35
import Derived.Test.YtcmicdcikechkaaGreatAgain44
set_option linter.all false
namespace Go.Proofs.YtcmicdcikechkaaGreat
open Go.RowKit Go.H
set_option maxRecDepth 100000
section
set_option maxHeartbeats 1000000
def wRoot : Root → Value
  | none => .nilIface
  | some (_, t) => wPage t.id
structure LooseIn (c : Nat → Nat) (r rn : Nat) (w : World) (d m : Nat) (ov : Value) (D : DSt) (X : Prop) (num : Nat) (o : Root) : Prop where
  cl : Cl w c
  disk : DiskA (Dt c) w d m ov D
  od : c d = r
  om : c m = r
  oov : ∀ b, ov.ownBlock = some b → c b = r
  dm : d ≠ m
  ovm : ∀ b, ov.ownBlock = some b → b ≠ m
  opn : D.opn = []
  ok : DOk D
  after : D.after < 1
  b1 : 3 ≤ D.blocks
  b2 : D.blocks ≤ 4096
  nle : num ≤ 1000000
  head : openF (headsOf D) = some (num, rootId o)
  root : RootAt c rn w (pgs D) D.blocks X o (wRoot o)
  page : rootPage o
  so : Sorted (rootL o)
  one : ∀ id, rcnt (.pg id) o ≤ 1
  ln : (rootL o).length ≤ 90000
theorem Rep.wpage {c : Nat → Nat} {rn : Nat} {w : World} {pg : Nat → Option Bs} {N : Nat} {X : Prop} : ∀ {d : Nat} {t : T} {v : Value}, t.isPage → Rep c rn w pg N X d t v → v = wPage t.id
  | 0, _, _, _, h => h.elim
  | d + 1, .node (.page i) l ks, v, _, h => h.1
  | d + 1, .node (.mem n g o) l ks, v, hp, _ => hp.elim
theorem RootAt.wroot {c : Nat → Nat} {rn : Nat} {w : World} {pg : Nat → Option Bs} {N : Nat} {X : Prop} {o : Root} {v : Value} (hp : rootPage o) (h : RootAt c rn w pg N X o v) : RootAt c rn w pg N X o (wRoot o) := by
  cases o with
  | none => exact rfl
  | some p => exact ⟨by have := Rep.wpage hp h.1; subst this; exact h.1, h.2⟩
theorem TreeIn.loose {c : Nat → Nat} {r rn rm : Nat} {w : World} {tp st lm km sm d m : Nat} {nr lr gv ov ov' : Value} {Z : TSt} {k : Nat} {sn : List Value} (h : TreeIn c r rn rm w tp st lm km nr lr gv ov Z k sn) (haf : Z.D.after < 1) (s : StoreIn c r w st sm d m ov' Z.S Z.D) (h1 : 1 ≤ Z.S.pages) (h2 : Z.S.pages ≤ 4000) : LooseIn c r rn w d m ov' Z.D False Z.S.num Z.last := by
  have ha := h.hd.alive
  refine ⟨h.cl, s.disk, s.od, s.om, s.oov, s.d_m, s.ov_m, h.bk.opn, h.bk.ok, haf, by have := ha.size; omega, by have := ha.size; omega, h.bk.num, h.bk.head, RootAt.wroot h.bk.lp h.last, h.bk.lp, h.bk.sl, fun id => ?_, h.bk.bl⟩
  rw [h.bk.b2]; split <;> omega
theorem TreeAt.loose {c : Nat → Nat} {r rn rm : Nat} {w : World} {tp : Nat} {Z : TSt} {k : Nat} (h : TreeAt c r rn rm w tp Z k) (haf : Z.D.after < 1) (h1 : 1 ≤ Z.S.pages) (h2 : Z.S.pages ≤ 4000) : Z.D.down = false ∧ Z.D.blocks = Z.S.pages + 2 ∧ ∃ m ov, LooseIn c r rn w Z.S.dk m ov Z.D False Z.S.num Z.last := by
  obtain ⟨st, lm, km, nr, lr, gv, ov, sn, h⟩ := h
  have ha := h.hd.alive
  obtain ⟨sm, d, m, ov', s⟩ := h.hd.store
  have hd := s.dk
  subst hd
  exact ⟨ha.down, ha.size, m, ov', h.loose haf s h1 h2⟩
theorem read_like {D D' : DSt} (ho : D.opn = []) (ho' : D'.opn = []) (hk : D'.kept = D.kept) (j : Nat) : D'.read j = D.read j := by
  unfold DSt.read DSt.good
  rw [ho, ho', hk]
theorem LooseIn.like {c c' : Nat → Nat} {r rn : Nat} {w w' : World} {d m : Nat} {ov ov' : Value} {D D' : DSt} {X : Prop} {num : Nat} {o : Root} (h : LooseIn c r rn w d m ov D X num o) (hd : DiskA (Dt c') w' d m ov' D') (hc : Cl w' c') (od : c' d = r) (om : c' m = r) (oov : ∀ b, ov'.ownBlock = some b → c' b = r) (ovm : ∀ b, ov'.ownBlock = some b → b ≠ m) (ho' : D'.opn = []) (hk : D'.kept = D.kept) (hb : D'.blocks = D.blocks) (haf : D'.after < 1) : LooseIn c' r rn w' d m ov' D' X num o := by
  have hr : ∀ j, D'.read j = D.read j := read_like h.opn ho' hk
  have hp : pgs D' = pgs D := by funext j; unfold pgs; rw [hr]
  have hg : ∀ j, D'.good j = D.good j := fun j => by unfold DSt.good; rw [hk]
  refine ⟨hc, hd, od, om, oov, h.dm, ovm, ho', ⟨fun j => by rw [hg]; exact h.ok.good j, by rw [ho']; simp⟩, haf, by rw [hb]; exact h.b1, by rw [hb]; exact h.b2, h.nle, ?_, ?_, h.page, h.so, h.one, h.ln⟩
  · have : headsOf D' = headsOf D := by funext k; unfold headsOf; rw [hr, hb]
    rw [this]; exact h.head
  · rw [hp, hb]
    exact RootAt.pageW h.page h.root
theorem LooseIn.fr0 {c : Nat → Nat} {r rn : Nat} {w w' : World} {d m : Nat} {ov : Value} {D : DSt} {X : Prop} {num : Nat} {o : Root} (h : LooseIn c r rn w d m ov D X num o) (hf : Fr C0 w w') : LooseIn c r rn w' d m ov D X num o :=
  { h with cl := h.cl.mono hf.size, disk := h.disk.fr0 hf, root := h.root.fr0 hf }
theorem LooseIn.move {c c' : Nat → Nat} {r rn : Nat} {w w' : World} {d m : Nat} {ov : Value} {D : DSt} {X : Prop} {num : Nat} {o : Root} (h : LooseIn c r rn w d m ov D X num o) (hf : Fr C0 w w') (ha : Ag w.heap.size c c') (hc : Cl w' c') : LooseIn c' r rn w' d m ov D X num o := by
  have hdl : d < w.heap.size := (Array.getElem?_eq_some_iff.1 h.disk.blk).1
  have hml : m < w.heap.size := by obtain ⟨M, k1, _⟩ := h.disk.kept; exact k1.lt
  have hol : ∀ b, ov.ownBlock = some b → b < w.heap.size := fun b hb => by obtain ⟨xs, o, _⟩ := h.disk.opn; exact (o.lt b hb).2
  exact { h with cl := hc, disk := (DiskAt.ag h.disk ha).fr0 hf, root := (h.root.ag ha).fr0 hf, od := (ha _ hdl).trans h.od, om := (ha _ hml).trans h.om, oov := fun b hb => (ha _ (hol b hb)).trans (h.oov b hb) }
theorem LooseIn.open_ {c : Nat → Nat} {r rn rm : Nat} {w : World} {d m : Nat} {ov : Value} {D : DSt} {X : Prop} {num : Nat} {o : Root} (h : LooseIn c r rn w d m ov D X num o) (ho : Owners r rn rm) (hdn : D.down = false) :
    Calls Tryz.prog 28 #[.pointer (some ⟨d, 0, none⟩)] w fun e w' => Fr (fun b => c b = r) w w' ∧ ((X ∧ e = .returned (.tuple #[.pointer none, .int .i64 22])) ∨ ∃ tp c' Z, e = .returned (.tuple #[.pointer (some ⟨tp, 0, none⟩), .int .i64 0]) ∧ Ag w.heap.size c c' ∧ TreeAt c' r rn rm w' tp Z 0 ∧ Z.D = D ∧ Z.now = o ∧ Z.last = o ∧ Z.S.num = num ∧ Z.S.pages = D.blocks - 2 ∧ Z.S.dk = d) := by
  have h0 := h.root
  have hp := h.page
  have hhd := h.head
  have hso := h.so
  have hone := h.one
  have hln := h.ln
  have hbl : ∀ k, (D.read k).length = 8192 := fun k => by
    have h1 : D.read k = D.good k := by unfold DSt.read; rw [h.opn]; rfl
    rw [h1]; exact h.disk.good_length k
  cases o with
  | none =>
    refine (open_empty (rm := rm) ho h.disk h.od h.om h.oov h.cl hdn h.b1 h.b2 hbl h.opn h.ok h.nle hhd).mono ?_
    rintro e w' ⟨f, tp, c', rfl, ag, -, t⟩
    exact ⟨f.mono fun _ _ e => e.elim, .inr ⟨tp, c', _, rfl, ag, t, rfl, rfl, rfl, rfl, rfl, rfl⟩⟩
  | some p =>
    obtain ⟨dd, t⟩ := p
    refine (open_full (rm := rm) ho h.disk h.od h.om h.oov h.cl hdn h.b1 h.b2 hbl h.opn h.ok h.nle hhd h0.1 h0.2 hp hso hone hln).mono ?_
    rintro e w' ⟨f, (⟨hx, rfl⟩ | ⟨tp, c', live, held, rfl, ag, -, hs, t⟩)⟩
    · exact ⟨f, .inl ⟨hx, rfl⟩⟩
    · exact ⟨f, .inr ⟨tp, c', _, rfl, ag, t, rfl, rfl, rfl, rfl, rfl, rfl⟩⟩
end
section
set_option maxHeartbeats 2000000
theorem TreeAt.moveC {C : Nat → Prop} {c c' : Nat → Nat} {r rn rm : Nat} {w w' : World} {tp : Nat} {Z : TSt} {k : Nat} (h : TreeAt c r rn rm w tp Z k) (hf : Fr C w w') (ha : Ag w.heap.size c c') (hc : Cl w' c') (h0 : ∀ b, C b → c' b ≠ 0) (h1 : ∀ b, C b → c' b ≠ r) (h2 : ∀ b, C b → c' b ≠ rn) (h3 : ∀ b, C b → c' b ≠ rm) : TreeAt c' r rn rm w' tp Z k := by
  obtain ⟨st, lm, km, nr, lr, gv, ov, sn, h⟩ := h
  have hgo : ∀ b, gv.ownBlock = some b → c' b = r := fun b hb => (ha b (h.gr.lt b hb).2).trans (h.go b hb)
  have hoo : ∀ b, ov.ownBlock = some b → c' b = rm := fun b hb => (ha b (h.orow.lt b hb).2).trans (h.oo b hb)
  have hlm : c' lm = rm := (ha _ h.live.lt).trans h.lmo
  have hkm : c' km = rm := (ha _ h.kept.lt).trans h.kmo
  have hhd := h.hd.ag ha
  exact ⟨st, lm, km, nr, lr, gv, ov, sn, hhd.fr hf h1 h0, hc, hf.blk h.blk (fun e => h1 _ e hhd.own), own_kept h.gr hf (fun b hb e => h1 b e (hgo b hb)), hgo, own_kept h.orow hf (fun b hb e => h3 b e (hoo b hb)), hoo, h.live.fr hf (fun e => h3 _ e hlm), hlm, h.kept.fr hf (fun e => h3 _ e hkm), hkm, h.lk, (h.now.ag ha).fr hf h2 h0, (h.last.ag ha).fr hf h2 h0, h.bk⟩
def OX (r r' : Nat) : Prop := 1 ≤ r ∧ 1 ≤ r' ∧ (r + 3 ≤ r' ∨ r' + 3 ≤ r)
theorem OX.swap {r r' : Nat} (h : OX r r') : OX r' r := ⟨h.2.1, h.1, h.2.2.symm⟩
end
section
set_option maxHeartbeats 1000000
theorem own_r {r : Nat} (h : 1 ≤ r) : Owners r (r + 1) (r + 2) := ⟨by omega, by omega, by omega, by omega, by omega, by omega⟩
theorem no_r {r : Nat} (h : 1 ≤ r) : ∀ b : Nat, (fun _ => 0 : Nat → Nat) b ≠ r ∧ (fun _ => 0 : Nat → Nat) b ≠ r + 1 ∧ (fun _ => 0 : Nat → Nat) b ≠ r + 2 := fun b => by
  show 0 ≠ r ∧ 0 ≠ r + 1 ∧ 0 ≠ r + 2
  omega
structure FitsR (pn d N k : Nat) (Z : TSt) : Prop where
  num : Z.S.num = N
  now : (rootL Z.now).length ≤ k
  last : (rootL Z.last).length ≤ k
  pages : Z.S.pages = pn
  dk : Z.S.dk = d
  nk : N ≤ k
  af : Z.D.after < 1
structure At1 (w0 : World) (pn r d tp : Nat) (La Ll : List KV) (N k : Nat) (c : Nat → Nat) (w : World) : Prop where
  ex : ∃ Z, Stg (fun _ => 0) w0 r (r + 1) (r + 2) c w tp Z 0 ∧ rootL Z.now = La ∧ rootL Z.last = Ll ∧ FitsR pn d N k Z
abbrev OwnR (r : Nat) (c : Nat → Nat) : Nat → Prop := fun b => c b = r ∨ c b = r + 1 ∨ c b = r + 2
variable {w0 w w' : World} {pn r d tp N k : Nat} {La Ll : List KV} {c c' : Nat → Nat}
theorem At1.le {k' : Nat} (h : At1 w0 pn r d tp La Ll N k c w) (hk : k ≤ k') : At1 w0 pn r d tp La Ll N k' c w := by
  obtain ⟨Z, a, b, e, i⟩ := h
  exact ⟨Z, a, b, e, ⟨i.num, Nat.le_trans i.now hk, Nat.le_trans i.last hk, i.pages, i.dk, Nat.le_trans i.nk hk, i.af⟩⟩
theorem At1.fr0 (h : At1 w0 pn r d tp La Ll N k c w) (hf : Fr C0 w w') : At1 w0 pn r d tp La Ll N k c w' := by
  obtain ⟨Z, a, b, e, i⟩ := h
  exact ⟨Z, a.fr0 hf, b, e, i⟩
theorem At1.move (h : At1 w0 pn r d tp La Ll N k c w) (hf : Fr C0 w w') (ha : Ag w.heap.size c c') (hc : Cl w' c') : At1 w0 pn r d tp La Ll N k c' w' := by
  obtain ⟨Z, a, b, e, i⟩ := h
  exact ⟨Z, a.move hf ha hc, b, e, i⟩
theorem At1.fr (h : At1 w0 pn r d tp La Ll N k c w) : Fr C0 w0 w := by
  obtain ⟨Z, a, _⟩ := h
  exact a.fr
theorem At1.ag (h : At1 w0 pn r d tp La Ll N k c w) : Ag w0.heap.size (fun _ => 0) c := by
  obtain ⟨Z, a, _⟩ := h
  exact a.ag
theorem At1.cl (h : At1 w0 pn r d tp La Ll N k c w) : Cl w c := by
  obtain ⟨Z, a, _⟩ := h
  exact a.tr.cl
theorem At1.ok (h : At1 w0 pn r d tp La Ll N k c w) : ∀ x ∈ La, KVok x := by
  obtain ⟨Z, a, b, _⟩ := h
  rw [← b]; exact a.tr.ok
theorem At1.len (h : At1 w0 pn r d tp La Ll N k c w) : La.length ≤ k := by
  obtain ⟨Z, a, b, e, i⟩ := h
  rw [← b]; exact i.now
theorem At1.came {F : Nat → Prop} {v : Value} {l : Bs} (h : At1 w0 pn r d tp La Ll N k c w) (hv : BytesAt F w0 v l) : BytesAt (Dt c) w v l := came_in (hv.mono fun _ _ _ => trivial) (fun _ => rfl) h.fr h.ag
theorem own_apart {r' : Nat} (hx : OX r r') (hc : Cl w c) (ha : Ag w.heap.size c c') {b : Nat} (e : OwnR r' c b) : r' ≤ c' b ∧ c' b ≤ r' + 2 := by
  have hx1 := hx.2.1
  have e' : c b = r' ∨ c b = r' + 1 ∨ c b = r' + 2 := e
  have hl : b < w.heap.size := by
    by_cases h : b < w.heap.size
    · exact h
    · have := hc b (by omega); omega
  rw [ha b hl]; omega
theorem At1.stay {r' : Nat} (h : At1 w0 pn r d tp La Ll N k c w) (hx : OX r r') (hf : Fr (OwnR r' c) w w') (ha : Ag w.heap.size c c') (hc : Cl w' c') : At1 w0 pn r d tp La Ll N k c' w' := by
  obtain ⟨Z, a, b, e, i⟩ := h
  have hX : ∀ b, OwnR r' c b → r' ≤ c' b ∧ c' b ≤ r' + 2 := fun b e => own_apart hx a.tr.cl ha e
  have hs := a.fr.size
  obtain ⟨hx1, hx2, hx3⟩ := hx
  refine ⟨Z, ⟨a.fr.trans hf (fun b' hb e => ?_), fun b' hb => (ha b' (by omega)).trans (a.ag b' hb), a.tr.moveC hf ha hc (fun b e => ?_) (fun b e => ?_) (fun b e => ?_) (fun b e => ?_)⟩, b, e, i⟩
  · have h1 : c b' = 0 := a.ag b' hb
    have e' : c b' = r' ∨ c b' = r' + 1 ∨ c b' = r' + 2 := e
    omega
  all_goals
    have h1 := hX b e
    omega
theorem at1_open {n : Nat} (hr : 1 ≤ r) (h1 : 3 ≤ n) (h2 : n ≤ 4096) (hf : Fr C0 w0 w) (ha : Ag w0.heap.size (fun _ => 0) c) (hc : Cl w c) :
    Calls Tryz.prog 8 #[.int .i64 (n : Int)] w fun e w' => ∃ tp, e = .returned (.tuple #[.pointer (some ⟨w.heap.size + 1, 0, none⟩), .pointer (some ⟨tp, 0, none⟩)]) ∧ Hid (Fr C0 w w' ∧ ∃ c', Ag w.heap.size c c' ∧ At1 w0 (n - 2) r (w.heap.size + 1) tp [] [] 0 0 c' w') := by
  refine (lopen_calls (own_r hr) hc h1 h2).mono ?_
  rintro e w' ⟨tp, rfl, f, c', ag, t⟩
  have hs := hf.size
  exact ⟨tp, rfl, Lib.hid ⟨f, c', ag, _, ⟨hf.trans0 f, fun b hb => (ag b (by omega)).trans (ha b hb), t⟩, rfl, rfl, rfl, Nat.le_refl _, Nat.le_refl _, rfl, rfl, Nat.le_refl _, by show (0 : Int) < 1; omega⟩⟩
theorem at1_put {kv vv : Value} {x : KV} (hr1 : 1 ≤ r) (h : At1 w0 pn r d tp La Ll N k c w) (hk : BytesAt (Dt c) w kv x.1) (hv : BytesAt (Dt c) w vv x.2) (hw : wrong x.1 x.2 = 0) (hr : La.length + Ll.length < pn) (hk4 : k ≤ 80000) :
    Calls Tryz.prog 10 #[.pointer (some ⟨tp, 0, none⟩), kv, vv] w fun e w' => e = .returned (.int .i64 0) ∧ Hid (∃ c', At1 w0 pn r d tp (putL x La) Ll N (k + 1) c' w' ∧ Fr (OwnR r c) w w' ∧ Ag w.heap.size c c') := by
  obtain ⟨Z, a, rfl, rfl, i⟩ := h
  have h1 := held_le a.tr.bk a.tr.shl
  have h2 := i.now
  have h4 := i.pages
  refine (put_room (x := x) (own_r hr1) a.tr hk hv hw (by omega) (by omega)).mono ?_
  rintro e' w' ⟨rfl, f, c', o', g', ag, t, e1⟩
  refine ⟨rfl, Lib.hid ⟨c', ⟨_, a.next (no_r hr1) f ag t, e1, rfl, ⟨i.num, by show (rootL o').length ≤ _; rw [e1, putL_length a.tr.bk.sn]; split <;> omega, by have := i.last; show (rootL Z.last).length ≤ _; omega, h4, i.dk, by have := i.nk; omega, i.af⟩⟩, f, ag⟩⟩
theorem at1_wrong {F G : Nat → Prop} {kv vv : Value} {x v : Bs} (h : At1 w0 pn r d tp La Ll N k c w) (hk : BytesAt F w kv x) (hv : BytesAt G w vv v) (hw : wrong x v ≠ 0) :
    Calls Tryz.prog 10 #[.pointer (some ⟨tp, 0, none⟩), kv, vv] w fun e w' => e = .returned (.int .i64 (wrong x v)) ∧ Fr C0 w w' := by
  obtain ⟨Z, a, rfl, rfl, i⟩ := h
  exact wrong_at a.tr hk hv hw
theorem at1_del {kv : Value} {x : Bs} (hr1 : 1 ≤ r) (h : At1 w0 pn r d tp La Ll N k c w) (hk : BytesAt (Dt c) w kv x) (hw : wrong x [] = 0) (hr : La.length + Ll.length ≤ pn) (hk4 : k ≤ 80000) :
    Calls Tryz.prog 12 #[.pointer (some ⟨tp, 0, none⟩), kv] w fun e w' => e = .returned (.tuple #[.bool (getL x La).isSome, .int .i64 0]) ∧ Hid (∃ c', At1 w0 pn r d tp (delL x La) Ll N k c' w' ∧ Fr (OwnR r c) w w' ∧ Ag w.heap.size c c') := by
  obtain ⟨Z, a, rfl, rfl, i⟩ := h
  have h1 := held_le a.tr.bk a.tr.shl
  have h2 := i.now
  have h3 := i.last
  have h4 := i.pages
  have h6 := (delL_sub x (rootL Z.now)).length_le
  refine (del_at (own_r hr1) a.tr hk hw).mono ?_
  rintro e' w' (⟨hg, rfl, f⟩ | ⟨hg, ⟨rfl, f, o', e1, e2, e3, e4⟩ | ⟨rfl, f, c', o', g', ag, t, e1⟩⟩)
  · refine ⟨by rw [hg]; rfl, Lib.hid ⟨c, ?_, f.mono (fun _ _ e => e.elim), fun _ _ => rfl⟩⟩
    rw [delL_miss hg]
    exact ⟨Z, a.fr0 f, rfl, rfl, i⟩
  · have h5 := rootDirty_count e2
    rw [e1] at h5
    omega
  · refine ⟨by cases hh : getL x (rootL Z.now) with | none => exact absurd hh hg | some _ => rfl, Lib.hid ?_⟩
    have f' : Fr (OwnR r c) w w' := f.mono (fun _ _ e => .inl e)
    exact ⟨c', ⟨_, a.next (no_r hr1) f' ag t, e1, rfl, ⟨i.num, by show (rootL o').length ≤ _; rw [e1]; omega, h3, h4, i.dk, i.nk, i.af⟩⟩, f', ag⟩
theorem at1_commit (hr1 : 1 ≤ r) (h : At1 w0 pn r d tp La Ll N k c w) (hk4 : k ≤ 80000) :
    Calls Tryz.prog 11 #[.pointer (some ⟨tp, 0, none⟩)] w fun e w' => e = .returned (.int .i64 0) ∧ Hid (∃ c', At1 w0 pn r d tp La La (N + 1) (k + 1) c' w' ∧ Fr (OwnR r c) w w' ∧ Ag w.heap.size c c') := by
  obtain ⟨Z, a, rfl, rfl, i⟩ := h
  refine (commit_at (own_r hr1) a.tr (by have := i.num; have := i.nk; omega) i.af).mono ?_
  rintro e' w' ⟨rfl, f, c', Z1, ag, t, e1, e2, e3, -, e5, e6, e7, e8, e9⟩
  have h2 := i.now
  have h3 := i.nk
  have st := a.next (no_r hr1) f ag t
  have ft : FitsR pn d (N + 1) (k + 1) Z1 := ⟨by have := i.num; omega, by rw [e1]; omega, by rw [e2, e1]; omega, by rw [e5]; exact i.pages, by rw [e8]; exact i.dk, by omega, e9⟩
  exact ⟨rfl, Lib.hid ⟨c', ⟨Z1, st, e1, by rw [e2, e1], ft⟩, f, ag⟩⟩
theorem at1_len (h : At1 w0 pn r d tp La Ll N k c w) : Calls Tryz.prog 15 #[.pointer (some ⟨tp, 0, none⟩)] w fun e w' => e = .returned (.int .i64 (La.length : Int)) ∧ w = w' := by
  obtain ⟨Z, a, rfl, rfl, i⟩ := h
  exact len_at a.tr
theorem at1_number (h : At1 w0 pn r d tp La Ll N k c w) : Calls Tryz.prog 20 #[.pointer (some ⟨tp, 0, none⟩)] w fun e w' => e = .returned (.int .i64 (N : Int)) ∧ w = w' := by
  obtain ⟨Z, a, rfl, rfl, i⟩ := h
  rw [← i.num]
  exact number_at a.tr
theorem at1_check (hr1 : 1 ≤ r) (h : At1 w0 pn r d tp La Ll N k c w) : Calls Tryz.prog 18 #[.pointer (some ⟨tp, 0, none⟩)] w fun e w' => e = .returned (.int .i64 0) ∧ Fr C0 w w' := by
  obtain ⟨Z, a, rfl, rfl, i⟩ := h
  exact check_at (own_r hr1) a.tr
theorem at1_range (h : At1 w0 pn r d tp La Ll N k c w) (hk3 : k ≤ 900) :
    Calls Tryz.prog 21 #[.pointer (some ⟨tp, 0, none⟩), .slice none 0 0, .slice none 0 0, .int .i64 999] w fun e w' => ∃ A cp, e = .returned (.tuple #[.slice A La.length cp, .int .i64 0]) ∧ Hid (Fr C0 w w' ∧ (∃ c', At1 w0 pn r d tp La Ll N k c' w' ∧ Ag w.heap.size c c' ∧ Cl w' c') ∧ PairsAt (fun _ => True) w' (.slice A La.length cp) La) := by
  obtain ⟨Z, a, rfl, rfl, i⟩ := h
  obtain ⟨q, hq1, hq2, hq3⟩ := own_many a.tr.cl [r, r + 1, r + 2]
  refine (range_at (n := 999) hq2 (hq3 r (by simp)) (hq3 (r + 1) (by simp)) hq1 (by omega) a.tr sl_nil sl_nil (by simp) (by simp)).mono ?_
  rintro e' w' ⟨f, v', c', rfl, ag, cl, o⟩
  have hl : (rangeL [] [] (rootL Z.now)).take 999 = rootL Z.now := by
    have := i.now
    rw [rangeL_all, List.take_of_length_le (by omega)]
  rw [hl] at o
  obtain ⟨A, cp, rfl, -⟩ := o.form
  exact ⟨A, cp, rfl, Lib.hid ⟨f, ⟨c', ⟨Z, a.move f ag cl, rfl, rfl, i⟩, ag, cl⟩, OutAt.pairs o (fun _ _ _ => trivial)⟩⟩
structure Off1 (w0 : World) (pn r d : Nat) (X : Prop) (dn : Bool) (Ll : List KV) (N k : Nat) (c : Nat → Nat) (w : World) : Prop where
  fr : Fr C0 w0 w
  ag : Ag w0.heap.size (fun _ => 0) c
  ex : ∃ m ov D o, LooseIn c r (r + 1) w d m ov D X N o ∧ D.down = dn ∧ D.blocks = pn + 2 ∧ rootL o = Ll ∧ N ≤ k ∧ Ll.length ≤ k
theorem At1.off (h : At1 w0 pn r d tp La Ll N k c w) (h1 : 1 ≤ pn) (h2 : pn ≤ 4000) : Off1 w0 pn r d False false Ll N k c w := by
  obtain ⟨Z, a, rfl, rfl, i⟩ := h
  have h4 := i.pages
  obtain ⟨l1, l2, m, ov, l3⟩ := a.tr.loose i.af (by omega) (by omega)
  rw [i.dk, i.num] at l3
  exact ⟨a.fr, a.ag, m, ov, _, _, l3, l1, by omega, rfl, i.nk, i.last⟩
theorem Off1.fr0 {X : Prop} {dn : Bool} (h : Off1 w0 pn r d X dn Ll N k c w) (hf : Fr C0 w w') : Off1 w0 pn r d X dn Ll N k c w' := by
  obtain ⟨a, b, m, ov, D, o, l, h1⟩ := h
  exact ⟨a.trans0 hf, b, m, ov, D, o, l.fr0 hf, h1⟩
theorem Off1.cl {X : Prop} {dn : Bool} (h : Off1 w0 pn r d X dn Ll N k c w) : Cl w c := by
  obtain ⟨a, b, m, ov, D, o, l, h1⟩ := h
  exact l.cl
end
end Go.Proofs.YtcmicdcikechkaaGreat
