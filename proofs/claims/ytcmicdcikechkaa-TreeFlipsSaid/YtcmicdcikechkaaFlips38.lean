import Derived.Test.YtcmicdcikechkaaFlips37
set_option linter.all false
section
namespace Go.Proofs.Ytcmicdcikechkaa
open Go.RowKit Go.H
set_option maxHeartbeats 1000000
set_option maxRecDepth 100000
def wRoot : Root → Value
  | none => .nilIface
  | some (_, t) => wPage t.id
structure LooseIn (c : Nat → Nat) (r rn : Nat) (w : World) (d m : Nat) (ov : Value) (D : DSt) (X : Prop) (num : Nat) (o : Root) : Prop where
  cl : Cl w c
  disk : DiskA (Dt c) w d m ov D
  od : c d = r
  om : c m = r
  oov : ∀ b, ov.ownBlock = some b → c b = r
  dm : d ≠ m
  ovm : ∀ b, ov.ownBlock = some b → b ≠ m
  opn : D.opn = []
  ok : DOk D
  after : D.after < 1
  b1 : 3 ≤ D.blocks
  b2 : D.blocks ≤ 4096
  nle : num ≤ 1000000
  head : openF (headsOf D) = some (num, rootId o)
  root : RootAt c rn w (pgs D) D.blocks X o (wRoot o)
  page : rootPage o
  so : Sorted (rootL o)
  one : ∀ id, rcnt (.pg id) o ≤ 1
  ln : (rootL o).length ≤ 90000
theorem Rep.wpage {c : Nat → Nat} {rn : Nat} {w : World} {pg : Nat → Option Bs} {N : Nat} {X : Prop} : ∀ {d : Nat} {t : T} {v : Value}, t.isPage → Rep c rn w pg N X d t v → v = wPage t.id
  | 0, _, _, _, h => h.elim
  | d + 1, .node (.page i) l ks, v, _, h => h.1
  | d + 1, .node (.mem n g o) l ks, v, hp, _ => hp.elim
theorem RootAt.wroot {c : Nat → Nat} {rn : Nat} {w : World} {pg : Nat → Option Bs} {N : Nat} {X : Prop} {o : Root} {v : Value} (hp : rootPage o) (h : RootAt c rn w pg N X o v) : RootAt c rn w pg N X o (wRoot o) := by
  cases o with
  | none => exact rfl
  | some p => exact ⟨by have := Rep.wpage hp h.1; subst this; exact h.1, h.2⟩
theorem TreeAt.loose {c : Nat → Nat} {r rn rm : Nat} {w : World} {tp : Nat} {Z : TSt} {k : Nat} (h : TreeAt c r rn rm w tp Z k) (h1 : 1 ≤ Z.S.pages) (h2 : Z.S.pages ≤ 4000) : Z.D.down = false ∧ Z.D.blocks = Z.S.pages + 2 ∧ ∃ m ov, LooseIn c r rn w Z.S.dk m ov Z.D False Z.S.num Z.last := by
  obtain ⟨st, lm, km, nr, lr, gv, ov, sn, h⟩ := h
  have ha := h.hd.alive
  obtain ⟨sm, d, m, ov, s⟩ := h.hd.store
  have hd := s.dk
  subst hd
  refine ⟨ha.down, ha.size, m, ov, h.cl, s.disk, s.od, s.om, s.oov, s.d_m, s.ov_m, h.bk.opn, h.bk.ok, ha.after, by have := ha.size; omega, by have := ha.size; omega, h.bk.num, h.bk.head, RootAt.wroot h.bk.lp h.last, h.bk.lp, h.bk.sl, fun id => ?_, h.bk.bl⟩
  rw [h.bk.b2]; split <;> omega
theorem LooseIn.fr0 {c : Nat → Nat} {r rn : Nat} {w w' : World} {d m : Nat} {ov : Value} {D : DSt} {X : Prop} {num : Nat} {o : Root} (h : LooseIn c r rn w d m ov D X num o) (hf : Fr C0 w w') : LooseIn c r rn w' d m ov D X num o :=
  { h with cl := h.cl.mono hf.size, disk := h.disk.fr0 hf, root := h.root.fr0 hf }
theorem LooseIn.move {c c' : Nat → Nat} {r rn : Nat} {w w' : World} {d m : Nat} {ov : Value} {D : DSt} {X : Prop} {num : Nat} {o : Root} (h : LooseIn c r rn w d m ov D X num o) (hf : Fr C0 w w') (ha : Ag w.heap.size c c') (hc : Cl w' c') : LooseIn c' r rn w' d m ov D X num o := by
  have hdl : d < w.heap.size := (Array.getElem?_eq_some_iff.1 h.disk.blk).1
  have hml : m < w.heap.size := by obtain ⟨M, k1, _⟩ := h.disk.kept; exact k1.lt
  have hol : ∀ b, ov.ownBlock = some b → b < w.heap.size := fun b hb => by obtain ⟨xs, o, _⟩ := h.disk.opn; exact (o.lt b hb).2
  exact { h with cl := hc, disk := (DiskAt.ag h.disk ha).fr0 hf, root := (h.root.ag ha).fr0 hf, od := (ha _ hdl).trans h.od, om := (ha _ hml).trans h.om, oov := fun b hb => (ha _ (hol b hb)).trans (h.oov b hb) }
theorem LooseIn.flip {c : Nat → Nat} {r rn : Nat} {w : World} {d m k bit : Nat} {ov : Value} {D : DSt} {num : Nat} {o : Root} (h : LooseIn c r rn w d m ov D False num o) (hr : r ≠ 0) (hk2 : 2 ≤ k) (hk : k < D.blocks) (hbit : bit < 65536) :
    Calls Try.prog 18 #[.pointer (some ⟨d, 0, none⟩), .int .i64 (k : Int), .int .i64 (bit : Int)] w fun e w' => e = .returned (.int .i64 0) ∧ Fr (fun b => b = m) w w' ∧ ∃ D', D'.blocks = D.blocks ∧ D'.down = D.down ∧ LooseIn c r rn w' d m ov D' True num o := by
  refine (flip_calls h.disk h.opn hk hbit (fun b hb => h.cl b hb) (fun e => hr (h.om.symm.trans e)) h.dm h.ovm).mono ?_
  rintro e w' ⟨rfl, l', h1, h2, h3⟩
  have h8 := h.disk.good_length k
  have hl8 : l'.length = 8192 := by rw [← h1.len]; exact h8
  refine ⟨rfl, h3, DSt.turned D k l', rfl, rfl, ?_⟩
  refine { h with cl := h.cl.mono h3.size, disk := h2, opn := h.opn, ok := turned_ok h.ok hl8, after := h.after, b1 := h.b1, b2 := h.b2, head := (turned_heads h.opn hl8 hk2).trans h.head, root := ?_ }
  have h0 := h.root
  have hp := h.page
  cases o with
  | none => exact h0
  | some p => exact ⟨Rep.pageW hp (Rep.spoil (fun id hid => turned_pgs h.opn h1 h8 id hid) hp h0.1), h0.2⟩
theorem LooseIn.open_ {c : Nat → Nat} {r rn rm : Nat} {w : World} {d m : Nat} {ov : Value} {D : DSt} {X : Prop} {num : Nat} {o : Root} (h : LooseIn c r rn w d m ov D X num o) (ho : Owners r rn rm) (hdn : D.down = false) :
    Calls Try.prog 19 #[.pointer (some ⟨d, 0, none⟩)] w fun e w' => Fr (fun b => c b = r) w w' ∧ ((X ∧ e = .returned (.tuple #[.pointer none, .int .i64 22])) ∨ ∃ tp c' Z, e = .returned (.tuple #[.pointer (some ⟨tp, 0, none⟩), .int .i64 0]) ∧ Ag w.heap.size c c' ∧ TreeAt c' r rn rm w' tp Z 0 ∧ Z.D = D ∧ Z.now = o ∧ Z.last = o ∧ Z.S.num = num ∧ Z.S.pages = D.blocks - 2 ∧ Z.S.dk = d) := by
  have h0 := h.root
  have hp := h.page
  have hhd := h.head
  have hso := h.so
  have hone := h.one
  have hln := h.ln
  have hbl : ∀ k, (D.read k).length = 8192 := fun k => by
    have h1 : D.read k = D.good k := by unfold DSt.read; rw [h.opn]; rfl
    rw [h1]; exact h.disk.good_length k
  cases o with
  | none =>
    refine (open_empty (rm := rm) ho h.disk h.od h.om h.oov h.cl hdn h.after h.b1 h.b2 hbl h.opn h.ok h.nle hhd).mono ?_
    rintro e w' ⟨f, tp, c', rfl, ag, -, t⟩
    exact ⟨f.mono fun _ _ e => e.elim, .inr ⟨tp, c', _, rfl, ag, t, rfl, rfl, rfl, rfl, rfl, rfl⟩⟩
  | some p =>
    obtain ⟨dd, t⟩ := p
    refine (open_full (rm := rm) ho h.disk h.od h.om h.oov h.cl hdn h.after h.b1 h.b2 hbl h.opn h.ok h.nle hhd h0.1 h0.2 hp hso hone hln).mono ?_
    rintro e w' ⟨f, (⟨hx, rfl⟩ | ⟨tp, c', live, held, rfl, ag, -, hs, t⟩)⟩
    · exact ⟨f, .inl ⟨hx, rfl⟩⟩
    · exact ⟨f, .inr ⟨tp, c', _, rfl, ag, t, rfl, rfl, rfl, rfl, rfl, rfl⟩⟩
end Go.Proofs.Ytcmicdcikechkaa
end
section
namespace Go.Proofs.Ytcmicdcikechkaa
open Go.RowKit Go.H
set_option maxHeartbeats 2000000
set_option maxRecDepth 100000
def OX (r r' : Nat) : Prop := 1 ≤ r ∧ 1 ≤ r' ∧ (r + 3 ≤ r' ∨ r' + 3 ≤ r)
end Go.Proofs.Ytcmicdcikechkaa
end
section
namespace Go.Proofs.Ytcmicdcikechkaa
open Go.RowKit Go.H
set_option maxHeartbeats 1000000
set_option maxRecDepth 100000
theorem dpairs_next {c c' : Nat → Nat} {r rn rm : Nat} {w w' : World} {v : Value} {L : List KV} (ho : Owners r rn rm) (h : PairsAt (Dt c) w v L) (hf : Fr (fun b => c b = r ∨ c b = rn ∨ c b = rm) w w') (ha : Ag w.heap.size c c') : PairsAt (Dt c') w' v L :=
  ((h.mono (F' := fun b => c b = 0 ∧ b < w.heap.size) (fun b hb hl => ⟨hb, hl⟩)).fr hf (fun b hb e => by rcases e with e | e | e; exact ho.r0 (e.symm.trans hb.1); exact ho.n0 (e.symm.trans hb.1); exact ho.m0 (e.symm.trans hb.1))).mono (fun b hb _ => (ha b hb.2).trans hb.1)
theorem dpairs_move {c c' : Nat → Nat} {w w' : World} {v : Value} {L : List KV} (h : PairsAt (Dt c) w v L) (hf : Fr C0 w w') (ha : Ag w.heap.size c c') : PairsAt (Dt c') w' v L :=
  (h.mono (F' := Dt c') (fun b hb hl => (ha b hl).trans hb)).fr0 hf
theorem dpairs_put {c : Nat → Nat} {w w' : World} {v : Value} {L : List KV} (hc : Cl w c) (h : PairsAt (fun b => Dt c b ∨ w.heap.size ≤ b) w' v L) : PairsAt (Dt c) w' v L :=
  h.mono (fun b hb _ => hb.elim id (fun g => hc b g))
theorem own_r {r : Nat} (h : 1 ≤ r) : Owners r (r + 1) (r + 2) := ⟨by omega, by omega, by omega, by omega, by omega, by omega⟩
theorem no_r {r : Nat} (h : 1 ≤ r) : ∀ b : Nat, (fun _ => 0 : Nat → Nat) b ≠ r ∧ (fun _ => 0 : Nat → Nat) b ≠ r + 1 ∧ (fun _ => 0 : Nat → Nat) b ≠ r + 2 := fun b => by
  show 0 ≠ r ∧ 0 ≠ r + 1 ∧ 0 ≠ r + 2
  omega
structure FitsR (pn d N k : Nat) (Z : TSt) : Prop where
  num : Z.S.num = N
  now : (rootL Z.now).length ≤ k
  last : (rootL Z.last).length ≤ k
  pages : Z.S.pages = pn
  dk : Z.S.dk = d
  nk : N ≤ k
structure At1 (w0 : World) (pn r d tp : Nat) (La Ll : List KV) (N k : Nat) (c : Nat → Nat) (w : World) : Prop where
  ex : ∃ Z, Stg (fun _ => 0) w0 r (r + 1) (r + 2) c w tp Z 0 ∧ rootL Z.now = La ∧ rootL Z.last = Ll ∧ FitsR pn d N k Z
abbrev OwnR (r : Nat) (c : Nat → Nat) : Nat → Prop := fun b => c b = r ∨ c b = r + 1 ∨ c b = r + 2
variable {w0 w w' : World} {pn r d tp N k : Nat} {La Ll : List KV} {c c' : Nat → Nat}
theorem At1.le {k' : Nat} (h : At1 w0 pn r d tp La Ll N k c w) (hk : k ≤ k') : At1 w0 pn r d tp La Ll N k' c w := by
  obtain ⟨Z, a, b, e, i⟩ := h
  exact ⟨Z, a, b, e, ⟨i.num, Nat.le_trans i.now hk, Nat.le_trans i.last hk, i.pages, i.dk, Nat.le_trans i.nk hk⟩⟩
theorem At1.fr0 (h : At1 w0 pn r d tp La Ll N k c w) (hf : Fr C0 w w') : At1 w0 pn r d tp La Ll N k c w' := by
  obtain ⟨Z, a, b, e, i⟩ := h
  exact ⟨Z, a.fr0 hf, b, e, i⟩
theorem At1.move (h : At1 w0 pn r d tp La Ll N k c w) (hf : Fr C0 w w') (ha : Ag w.heap.size c c') (hc : Cl w' c') : At1 w0 pn r d tp La Ll N k c' w' := by
  obtain ⟨Z, a, b, e, i⟩ := h
  exact ⟨Z, a.move hf ha hc, b, e, i⟩
theorem At1.fr (h : At1 w0 pn r d tp La Ll N k c w) : Fr C0 w0 w := by
  obtain ⟨Z, a, _⟩ := h
  exact a.fr
theorem At1.ag (h : At1 w0 pn r d tp La Ll N k c w) : Ag w0.heap.size (fun _ => 0) c := by
  obtain ⟨Z, a, _⟩ := h
  exact a.ag
theorem At1.cl (h : At1 w0 pn r d tp La Ll N k c w) : Cl w c := by
  obtain ⟨Z, a, _⟩ := h
  exact a.tr.cl
theorem At1.sorted (h : At1 w0 pn r d tp La Ll N k c w) : Sorted La := by
  obtain ⟨Z, a, b, _⟩ := h
  rw [← b]; exact a.tr.bk.sn
theorem At1.ok (h : At1 w0 pn r d tp La Ll N k c w) : ∀ x ∈ La, KVok x := by
  obtain ⟨Z, a, b, _⟩ := h
  rw [← b]; exact a.tr.ok
theorem At1.len (h : At1 w0 pn r d tp La Ll N k c w) : La.length ≤ k := by
  obtain ⟨Z, a, b, e, i⟩ := h
  rw [← b]; exact i.now
theorem At1.came {F : Nat → Prop} {v : Value} {l : Bs} (h : At1 w0 pn r d tp La Ll N k c w) (hv : BytesAt F w0 v l) : BytesAt (Dt c) w v l := came_in (hv.mono fun _ _ _ => trivial) (fun _ => rfl) h.fr h.ag
theorem at1_open {n : Nat} (hr : 1 ≤ r) (h1 : 3 ≤ n) (h2 : n ≤ 4096) (hf : Fr C0 w0 w) (ha : Ag w0.heap.size (fun _ => 0) c) (hc : Cl w c) :
    Calls Try.prog 7 #[.int .i64 (n : Int)] w fun e w' => ∃ tp, e = .returned (.tuple #[.pointer (some ⟨w.heap.size + 1, 0, none⟩), .pointer (some ⟨tp, 0, none⟩)]) ∧ Hid (Fr C0 w w' ∧ ∃ c', Ag w.heap.size c c' ∧ At1 w0 (n - 2) r (w.heap.size + 1) tp [] [] 0 0 c' w') := by
  refine (lopen_calls (own_r hr) hc h1 h2).mono ?_
  rintro e w' ⟨tp, rfl, f, c', ag, t⟩
  have hs := hf.size
  exact ⟨tp, rfl, Lib.hid ⟨f, c', ag, _, ⟨hf.trans0 f, fun b hb => (ag b (by omega)).trans (ha b hb), t⟩, rfl, rfl, rfl, Nat.le_refl _, Nat.le_refl _, rfl, rfl, Nat.le_refl _⟩⟩
theorem at1_put {kv vv : Value} {x : KV} (hr1 : 1 ≤ r) (h : At1 w0 pn r d tp La Ll N k c w) (hk : BytesAt (Dt c) w kv x.1) (hv : BytesAt (Dt c) w vv x.2) (hw : wrong x.1 x.2 = 0) (hr : La.length + Ll.length < pn) (hk4 : k ≤ 80000) :
    Calls Try.prog 8 #[.pointer (some ⟨tp, 0, none⟩), kv, vv] w fun e w' => e = .returned (.int .i64 0) ∧ Hid (∃ c', At1 w0 pn r d tp (putL x La) Ll N (k + 1) c' w' ∧ Fr (OwnR r c) w w' ∧ Ag w.heap.size c c') := by
  obtain ⟨Z, a, rfl, rfl, i⟩ := h
  have h1 := held_le a.tr.bk a.tr.shl
  have h2 := i.now
  have h4 := i.pages
  refine (put_room (x := x) (own_r hr1) a.tr hk hv hw (by omega) (by omega)).mono ?_
  rintro e' w' ⟨rfl, f, c', o', g', ag, t, e1⟩
  refine ⟨rfl, Lib.hid ⟨c', ⟨_, a.next (no_r hr1) f ag t, e1, rfl, ⟨i.num, by show (rootL o').length ≤ _; rw [e1, putL_length a.tr.bk.sn]; split <;> omega, by have := i.last; show (rootL Z.last).length ≤ _; omega, h4, i.dk, by have := i.nk; omega⟩⟩, f, ag⟩⟩
theorem at1_commit (hr1 : 1 ≤ r) (h : At1 w0 pn r d tp La Ll N k c w) (hk4 : k ≤ 80000) :
    Calls Try.prog 17 #[.pointer (some ⟨tp, 0, none⟩)] w fun e w' => e = .returned (.int .i64 0) ∧ Hid (∃ c', At1 w0 pn r d tp La La (N + 1) (k + 1) c' w' ∧ Fr (OwnR r c) w w' ∧ Ag w.heap.size c c') := by
  obtain ⟨Z, a, rfl, rfl, i⟩ := h
  refine (commit_at (own_r hr1) a.tr (by have := i.num; have := i.nk; omega)).mono ?_
  rintro e' w' ⟨rfl, f, c', Z1, ag, t, e1, e2, e3, -, e5, e6, e7, e8⟩
  have h2 := i.now
  have h3 := i.nk
  have st := a.next (no_r hr1) f ag t
  have ft : FitsR pn d (N + 1) (k + 1) Z1 := ⟨by have := i.num; omega, by rw [e1]; omega, by rw [e2, e1]; omega, by rw [e5]; exact i.pages, by rw [e8]; exact i.dk, by omega⟩
  exact ⟨rfl, Lib.hid ⟨c', ⟨Z1, st, e1, by rw [e2, e1], ft⟩, f, ag⟩⟩
theorem at1_get {kv : Value} {x : Bs} (h : At1 w0 pn r d tp La Ll N k c w) (hk : BytesAt (Dt c) w kv x) (hw : wrong x [] = 0) :
    Calls Try.prog 20 #[.pointer (some ⟨tp, 0, none⟩), kv] w fun e w' => GetP w w' False e (getL x La) := by
  obtain ⟨Z, a, rfl, rfl, i⟩ := h
  exact get_at a.tr hk hw
theorem at1_range (h : At1 w0 pn r d tp La Ll N k c w) (hk3 : k ≤ 900) :
    Calls Try.prog 9 #[.pointer (some ⟨tp, 0, none⟩), .slice none 0 0, .slice none 0 0, .int .i64 999] w fun e w' => ∃ A cp, e = .returned (.tuple #[.slice A La.length cp, .int .i64 0]) ∧ Hid (Fr C0 w w' ∧ (∃ c', At1 w0 pn r d tp La Ll N k c' w' ∧ Ag w.heap.size c c' ∧ Cl w' c') ∧ PairsAt (fun _ => True) w' (.slice A La.length cp) La) := by
  obtain ⟨Z, a, rfl, rfl, i⟩ := h
  obtain ⟨q, hq1, hq2, hq3⟩ := own_many a.tr.cl [r, r + 1, r + 2]
  refine (range_at (n := 999) hq2 (hq3 r (by simp)) (hq3 (r + 1) (by simp)) hq1 (by omega) a.tr sl_nil sl_nil (by simp) (by simp)).mono ?_
  rintro e' w' ⟨f, v', c', rfl, ag, cl, o⟩
  have hl : (rangeL [] [] (rootL Z.now)).take 999 = rootL Z.now := by
    have := i.now
    rw [rangeL_all, List.take_of_length_le (by omega)]
  rw [hl] at o
  obtain ⟨A, cp, rfl, -⟩ := o.form
  exact ⟨A, cp, rfl, Lib.hid ⟨f, ⟨c', ⟨Z, a.move f ag cl, rfl, rfl, i⟩, ag, cl⟩, OutAt.pairs o (fun _ _ _ => trivial)⟩⟩
structure Off1 (w0 : World) (pn r d : Nat) (X : Prop) (dn : Bool) (Ll : List KV) (N k : Nat) (c : Nat → Nat) (w : World) : Prop where
  fr : Fr C0 w0 w
  ag : Ag w0.heap.size (fun _ => 0) c
  ex : ∃ m ov D o, LooseIn c r (r + 1) w d m ov D X N o ∧ D.down = dn ∧ D.blocks = pn + 2 ∧ rootL o = Ll ∧ N ≤ k ∧ Ll.length ≤ k
theorem At1.off (h : At1 w0 pn r d tp La Ll N k c w) (h1 : 1 ≤ pn) (h2 : pn ≤ 4000) : Off1 w0 pn r d False false Ll N k c w := by
  obtain ⟨Z, a, rfl, rfl, i⟩ := h
  have h4 := i.pages
  obtain ⟨l1, l2, m, ov, l3⟩ := a.tr.loose (by omega) (by omega)
  rw [i.dk, i.num] at l3
  exact ⟨a.fr, a.ag, m, ov, _, _, l3, l1, by omega, rfl, i.nk, i.last⟩
theorem Off1.fr0 {X : Prop} {dn : Bool} (h : Off1 w0 pn r d X dn Ll N k c w) (hf : Fr C0 w w') : Off1 w0 pn r d X dn Ll N k c w' := by
  obtain ⟨a, b, m, ov, D, o, l, h1⟩ := h
  exact ⟨a.trans0 hf, b, m, ov, D, o, l.fr0 hf, h1⟩
theorem Off1.cl {X : Prop} {dn : Bool} (h : Off1 w0 pn r d X dn Ll N k c w) : Cl w c := by
  obtain ⟨a, b, m, ov, D, o, l, h1⟩ := h
  exact l.cl
theorem off1_flip {j bit : Nat} (hr1 : 1 ≤ r) (h : Off1 w0 pn r d False false Ll N k c w) (hj : 2 ≤ j) (hj2 : j < pn + 2) (hb : bit < 65536) :
    Calls Try.prog 18 #[.pointer (some ⟨d, 0, none⟩), .int .i64 (j : Int), .int .i64 (bit : Int)] w fun e w' => e = .returned (.int .i64 0) ∧ Hid (Off1 w0 pn r d True false Ll N k c w' ∧ Fr (OwnR r c) w w') := by
  obtain ⟨a, b, m, ov, D, o, l, h1, h2, h3, h4⟩ := h
  refine (l.flip (by omega) hj (by omega) hb).mono ?_
  rintro e w' ⟨rfl, f, D', e1, e2, l'⟩
  have f' : Fr (OwnR r c) w w' := f.mono (fun b _ e => .inl (by rw [e]; exact l.om))
  refine ⟨rfl, Lib.hid ⟨⟨a.trans f' (fun b' hb' e => ?_), b, m, ov, D', o, l', by rw [e2]; exact h1, by rw [e1]; exact h2, h3, h4⟩, f'⟩⟩
  have h5 : c b' = 0 := b b' hb'
  rcases e with e | e | e <;> omega
theorem off1_open {X : Prop} (hr1 : 1 ≤ r) (h : Off1 w0 pn r d X false Ll N k c w) :
    Calls Try.prog 19 #[.pointer (some ⟨d, 0, none⟩)] w fun e w' => (X ∧ e = .returned (.tuple #[.pointer none, .int .i64 22]) ∧ Fr C0 w0 w') ∨ ∃ tp, e = .returned (.tuple #[.pointer (some ⟨tp, 0, none⟩), .int .i64 0]) ∧ Hid (∃ c', At1 w0 pn r d tp Ll Ll N k c' w' ∧ Fr (OwnR r c) w w' ∧ Ag w.heap.size c c') := by
  obtain ⟨a, b, m, ov, D, o, l, h1, h2, h3, h4, h5⟩ := h
  refine (l.open_ (own_r hr1) h1).mono ?_
  rintro e w' ⟨f, hh⟩
  have hz : ∀ b', b' < w0.heap.size → ¬ c b' = r := fun b' hb' e => by
    have h6 : c b' = 0 := b b' hb'
    omega
  rcases hh with ⟨hx, rfl⟩ | ⟨tp, c', Z, rfl, ag, t, -, e2, e3, e4, e5, e6⟩
  · exact .inl ⟨hx, rfl, a.trans f hz⟩
  · have hs := a.size
    refine .inr ⟨tp, rfl, Lib.hid ⟨c', ⟨Z, ⟨a.trans f hz, fun b' hb' => (ag b' (by omega)).trans (b b' hb'), t⟩, by rw [e2]; exact h3, by rw [e3]; exact h3, ⟨e4, by rw [e2, h3]; exact h5, by rw [e3, h3]; exact h5, by omega, e6, h4⟩⟩, f.mono (fun b' _ e => .inl e), ag⟩⟩
end Go.Proofs.Ytcmicdcikechkaa
end
section
namespace Go.Proofs.Ytcmicdcikechkaa
open Go.RowKit Go.H
set_option maxHeartbeats 1000000
set_option maxRecDepth 100000
theorem and_mask (n : Int) (j : Nat) (m : Int) (hj : j < 62) (hm : m = ((2 ^ j - 1 : Nat) : Int)) : bits .and .i64 n m = n % ((2 ^ j : Nat) : Int) := by
  subst hm
  have h2 : 2 ^ j < 2 ^ 62 := Nat.pow_lt_pow_right (by omega) hj
  have h0 : 0 < 2 ^ j := Nat.two_pow_pos j
  have h7 : (BitVec.ofInt 64 ((2 ^ j - 1 : Nat) : Int)).toNat = 2 ^ j - 1 := by
    rw [BitVec.toNat_ofInt]
    have : ((2 ^ j - 1 : Nat) : Int) % ((2 ^ 64 : Nat) : Int) = ((2 ^ j - 1 : Nat) : Int) := Int.emod_eq_of_lt (by omega) (by omega)
    rw [this]; rfl
  have key : (BitVec.ofInt 64 n &&& BitVec.ofInt 64 ((2 ^ j - 1 : Nat) : Int)).toNat = (n % ((2 ^ 64 : Nat) : Int)).toNat % 2 ^ j := by
    rw [BitVec.toNat_and, BitVec.toNat_ofInt, h7, Nat.and_two_pow_sub_one_eq_mod]
  show IntKind.i64.wrap ((BitVec.ofInt 64 n &&& BitVec.ofInt 64 ((2 ^ j - 1 : Nat) : Int)).toNat : Nat) = _
  rw [key]
  have h3 : ((n % ((2 ^ 64 : Nat) : Int)).toNat % 2 ^ j : Nat) < 2 ^ j := Nat.mod_lt _ h0
  have h5 : IntKind.i64.wrap (((n % ((2 ^ 64 : Nat) : Int)).toNat % 2 ^ j : Nat) : Int) = (((n % ((2 ^ 64 : Nat) : Int)).toNat % 2 ^ j : Nat) : Int) := by
    generalize (n % ((2 ^ 64 : Nat) : Int)).toNat % 2 ^ j = q at h3
    exact wraps_i64 _ (by omega) (by omega)
  rw [h5]
  have h4 : ((n % ((2 ^ 64 : Nat) : Int)).toNat : Int) = n % ((2 ^ 64 : Nat) : Int) := Int.toNat_of_nonneg (Int.emod_nonneg _ (by omega))
  rw [Int.natCast_emod, h4]
  exact Int.emod_emod_of_dvd n (Int.natCast_dvd_natCast.2 (Nat.pow_dvd_pow 2 (by omega)))
theorem getL_at {l : List KV} (hs : Sorted l) : ∀ {i : Nat} (h : i < l.length), getL l[i].1 l = some l[i].2 := by
  induction l with
  | nil => intro i h; simp at h
  | cons y l ih =>
    intro i h
    have h1 := List.pairwise_cons.1 hs
    cases i with
    | zero => exact getL_hit (bcmp_self _)
    | succ i =>
      have h2 : i < l.length := by simpa using h
      have h3 := h1.1 l[i] (List.getElem_mem h2)
      simp only [List.getElem_cons_succ, getL]
      rw [if_neg (fun e => by
        unfold klt at h3
        have := bcmp_zero e
        rw [this, bcmp_self] at h3
        omega)]
      exact ih h1.2 h2
structure Flp (w0 : World) (tp k : Nat) (v : Value) (L : List KV) (w : World) : Prop where
  ex : ∃ c, At1 w0 58 1 (w0.heap.size + 1) tp L [] 0 k c w ∧ PairsAt (Dt c) w v L
structure FlO (w0 : World) (X : Prop) (v : Value) (L : List KV) (w : World) : Prop where
  ex : ∃ c, Off1 w0 58 1 (w0.heap.size + 1) X false L 1 40 c w ∧ PairsAt (Dt c) w v L
structure FlT (w0 : World) (tp : Nat) (v : Value) (L : List KV) (w : World) : Prop where
  ex : ∃ c, At1 w0 58 1 (w0.heap.size + 1) tp L L 1 40 c w ∧ PairsAt (Dt c) w v L
variable {w0 w w' : World} {tp k : Nat} {v : Value} {L : List KV}
theorem Flp.fr0 (h : Flp w0 tp k v L w) (hf : Fr C0 w w') : Flp w0 tp k v L w' := by
  obtain ⟨c, a, b⟩ := h
  exact ⟨c, a.fr0 hf, b.fr0 hf⟩
theorem Flp.le {k' : Nat} (h : Flp w0 tp k v L w) (hk : k ≤ k') : Flp w0 tp k' v L w := by
  obtain ⟨c, a, b⟩ := h
  exact ⟨c, a.le hk, b⟩
theorem Flp.fr (h : Flp w0 tp k v L w) : Fr C0 w0 w := by
  obtain ⟨c, a, b⟩ := h
  exact a.fr
theorem FlT.fr0 (h : FlT w0 tp v L w) (hf : Fr C0 w w') : FlT w0 tp v L w' := by
  obtain ⟨c, a, b⟩ := h
  exact ⟨c, a.fr0 hf, b.fr0 hf⟩
theorem FlT.fr (h : FlT w0 tp v L w) : Fr C0 w0 w := by
  obtain ⟨c, a, b⟩ := h
  exact a.fr
theorem FlT.cl (h : FlT w0 tp v L w) : ∃ c, Cl w c := by
  obtain ⟨c, a, b⟩ := h
  exact ⟨c, a.cl⟩
theorem FlO.cl {X : Prop} (h : FlO w0 X v L w) : ∃ c, Cl w c := by
  obtain ⟨c, a, b⟩ := h
  exact ⟨c, a.cl⟩
theorem flp_put {kv : Value} {x : Bs} (h : Flp w0 tp k v L w) (hk : BytesAt (fun _ => True) w0 kv x) (h0 : x ≠ []) (hl : x.length ≤ 64) (hk3 : k < 58) :
    Calls Try.prog 8 #[.pointer (some ⟨tp, 0, none⟩), kv, kv] w fun e w' => e = .returned (.int .i64 0) ∧ Hid (∃ c', At1 w0 58 1 (w0.heap.size + 1) tp (putL (x, x) L) [] 0 (k + 1) c' w' ∧ PairsAt (Dt c') w' v L ∧ BytesAt (Dt c') w' kv x) := by
  obtain ⟨c, a, b⟩ := h
  have hkc := a.came hk
  have := a.len
  have hw : wrong x x = 0 := by unfold wrong; rw [if_neg h0, if_neg (by omega)]
  refine (at1_put (x := (x, x)) (by omega) a hkc hkc hw (by simp; omega) (by omega)).mono ?_
  rintro e w' ⟨rfl, H⟩
  obtain ⟨c', a', f, ag⟩ := H.out
  exact ⟨rfl, Lib.hid ⟨c', a', dpairs_next own123 b f ag, data_next own123 hkc f ag⟩⟩
theorem flp_row {c : Nat → Nat} (h : At1 w0 58 1 (w0.heap.size + 1) tp L [] 0 k c w) (hf : Fr C0 w w') (hp : PairsAt (fun b => Dt c b ∨ w.heap.size ≤ b) w' v L) : Flp w0 tp k v L w' :=
  ⟨c, h.fr0 hf, dpairs_put h.cl hp⟩
theorem flp_commit (h : Flp w0 tp k v L w) (hk : k ≤ 30) :
    Calls Try.prog 17 #[.pointer (some ⟨tp, 0, none⟩)] w fun e w' => e = .returned (.int .i64 0) ∧ Hid (FlO w0 False v L w') := by
  obtain ⟨c, a, b⟩ := h
  refine (at1_commit (by omega) a (by omega)).mono ?_
  rintro e w' ⟨rfl, H⟩
  obtain ⟨c', a', f, ag⟩ := H.out
  exact ⟨rfl, Lib.hid ⟨c', (a'.le (by omega : k + 1 ≤ 40)).off (by omega) (by omega), dpairs_next own123 b f ag⟩⟩
theorem flo_flip {j bit : Nat} (h : FlO w0 False v L w) (hj : 2 ≤ j) (hj2 : j < 60) (hb : bit < 65536) :
    Calls Try.prog 18 #[.pointer (some ⟨w0.heap.size + 1, 0, none⟩), .int .i64 (j : Int), .int .i64 (bit : Int)] w fun e w' => e = .returned (.int .i64 0) ∧ Hid (FlO w0 True v L w') := by
  obtain ⟨c, a, b⟩ := h
  refine (off1_flip (by omega) a hj (by omega) hb).mono ?_
  rintro e w' ⟨rfl, H⟩
  obtain ⟨a', f⟩ := H.out
  exact ⟨rfl, Lib.hid ⟨c, a', dpairs_next own123 b f (fun _ _ => rfl)⟩⟩
theorem flo_open (h : FlO w0 True v L w) :
    Calls Try.prog 19 #[.pointer (some ⟨w0.heap.size + 1, 0, none⟩)] w fun e w' => (e = .returned (.tuple #[.pointer none, .int .i64 22]) ∧ Fr C0 w0 w') ∨ ∃ tp, e = .returned (.tuple #[.pointer (some ⟨tp, 0, none⟩), .int .i64 0]) ∧ Hid (FlT w0 tp v L w') := by
  obtain ⟨c, a, b⟩ := h
  refine (off1_open (by omega) a).mono ?_
  rintro e w' (⟨-, rfl, f⟩ | ⟨tp, rfl, H⟩)
  · exact .inl ⟨rfl, f⟩
  · obtain ⟨c', a', f, ag⟩ := H.out
    exact .inr ⟨tp, rfl, Lib.hid ⟨c', a', dpairs_next own123 b f ag⟩⟩
theorem flt_range (h : FlT w0 tp v L w) :
    Calls Try.prog 9 #[.pointer (some ⟨tp, 0, none⟩), .slice none 0 0, .slice none 0 0, .int .i64 999] w fun e w' => ∃ A cp, e = .returned (.tuple #[.slice A L.length cp, .int .i64 0]) ∧ Hid (FlT w0 tp v L w' ∧ PairsAt (fun _ => True) w' (.slice A L.length cp) L) := by
  obtain ⟨c, a, b⟩ := h
  refine (at1_range a (by omega)).mono ?_
  rintro e w' ⟨A, cp, rfl, H⟩
  obtain ⟨f, ⟨c', a', ag, -⟩, p⟩ := H.out
  exact ⟨A, cp, rfl, Lib.hid ⟨⟨c', a', dpairs_move b f ag⟩, p⟩⟩
theorem flt_get {i pn r d N : Nat} {kv : Value} {c : Nat → Nat} {Ll : List KV} (a : At1 w0 pn r d tp L Ll N k c w) (hi : i < L.length) (hk : BytesAt (Dt c) w kv L[i].1) :
    Calls Try.prog 20 #[.pointer (some ⟨tp, 0, none⟩), kv] w fun e w' => Fr C0 w w' ∧ ∃ v', e = .returned (.tuple #[v', .bool true, .int .i64 0]) ∧ BytesAt (fun _ => True) w' v' L[i].2 := by
  have hok := a.ok L[i] (List.getElem_mem hi)
  have hw : wrong L[i].1 [] = 0 := by
    unfold wrong
    have h1 := hok.1
    have h2 := hok.2.1
    rw [if_neg (fun e => by rw [e] at h1; simp at h1), if_neg (by simp; omega)]
  refine (at1_get a hk hw).mono ?_
  rintro e w' ⟨f, h⟩
  rw [getL_at a.sorted hi] at h
  rcases h with ⟨hx, _⟩ | ⟨v', rfl, hb⟩
  · exact hx.elim
  · exact ⟨f, v', rfl, hb.mono (fun _ _ _ => trivial)⟩
end Go.Proofs.Ytcmicdcikechkaa
end
