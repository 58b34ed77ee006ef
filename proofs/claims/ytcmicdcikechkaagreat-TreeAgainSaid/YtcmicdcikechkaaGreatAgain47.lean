import Derived.Test.YtcmicdcikechkaaGreatAgain33
import Derived.Test.YtcmicdcikechkaaGreatAgain46
set_option linter.all false
namespace Go.Proofs.YtcmicdcikechkaaGreat
set_option maxRecDepth 100000
section
open Go.RowKit Go.H Go.ChangeShapes Go.WideShapes Go.ChangeAt Go.Deep
set_option maxHeartbeats 1000000
structure ActV where
  kind : Int
  n : Int
  key : Bs
  value : Bs
  after : Int
  keep : Int
  torn : Int
  cut : Int
instance : Inhabited ActV := ⟨⟨0, 0, [], [], 0, 0, 0, 0⟩⟩
structure ActAt (w : World) (g o : Nat) (kv vv : Value) (x : ActV) : Prop where
  c0 : w.cell? ⟨g, o, none⟩ = some (.int .i64 x.kind)
  c1 : w.cell? ⟨g, o + 1, none⟩ = some (.int .i64 x.n)
  c2 : w.cell? ⟨g, o + 2, none⟩ = some kv
  c3 : w.cell? ⟨g, o + 3, none⟩ = some vv
  c4 : w.cell? ⟨g, o + 4, none⟩ = some (.int .i64 x.after)
  c5 : w.cell? ⟨g, o + 5, none⟩ = some (.int .u64 x.keep)
  c6 : w.cell? ⟨g, o + 6, none⟩ = some (.int .i64 x.torn)
  c7 : w.cell? ⟨g, o + 7, none⟩ = some (.int .i64 x.cut)
  key : BytesAt (fun _ => True) w kv x.key
  value : BytesAt (fun _ => True) w vv x.value
  kw : -9223372036854775808 ≤ x.kind ∧ x.kind ≤ 9223372036854775807
  nw : -9223372036854775808 ≤ x.n ∧ x.n ≤ 9223372036854775807
def ActsAt (w : World) (v : Value) (l : List ActV) : Prop := ∃ A c, v = .slice A l.length c ∧ l.length ≤ c ∧ c ≤ maxLen ∧ ∀ (i : Nat) (h : i < l.length), ∃ g o kv vv, A = some ⟨g, o, none⟩ ∧ ActAt w g (o + i * 8) kv vv l[i]
theorem cell_of_cells {w : World} {base : Nat} {a : Addr} {n : Nat} {cs : List Value} (h : w.cells? base a n = some cs) {i : Nat} (hi : i < n) {v : Value} (hv : cs[i]? = some v) : w.cell? (a.add i) = some v := by
  obtain ⟨h1, h2, h3⟩ := World.cells?_some h
  rw [h3 i hi, hv]
theorem list_8 {cs : List Value} (h : cs.length = 8) : ∃ a b c d e f g k, cs = [a, b, c, d, e, f, g, k] := by
  match cs, h with
  | [a, b, c, d, e, f, g, k], _ => exact ⟨a, b, c, d, e, f, g, k, rfl⟩
theorem list_4 {α : Type} {xs : List α} (h : xs.length = 4) : ∃ a b c d, xs = [a, b, c, d] := by
  match xs, h with
  | [a, b, c, d], _ => exact ⟨a, b, c, d, rfl⟩
theorem list_5 {α : Type} {xs : List α} (h : xs.length = 5) : ∃ a b c d e, xs = [a, b, c, d, e] := by
  match xs, h with
  | [a, b, c, d, e], _ => exact ⟨a, b, c, d, e, rfl⟩
section
variable {H : Type} {enc : TypeId × Value → H} {w : World} {base : Nat}
theorem bytes_trod {t e : TypeId} {fuel : Nat} {v : Value} {x : DataW H × List MemPlace} (ht : Tryz.prog.underlying t = some (.slice e)) (he : Tryz.prog.underlying e = some (.int .u8)) (hc : Tryz.prog.cellsOf e = 1) (h : DataW.trod enc Tryz.prog w 0 (fun _ => true) true fuel t [v] = some x) : ∃ l, BytesAt (fun _ => True) w v l := by
  rcases open_ints ht he hc h with ⟨hcs, -⟩ | ⟨a', len', cap', zs, hcs, hb, hl, hm, hz, hx, hcell, hwz⟩
  · simp only [List.cons.injEq, and_true] at hcs
    subst hcs
    exact ⟨[], none, 0, rfl, Nat.le_refl _, Nat.zero_le _, fun h => absurd rfl h⟩
  · simp only [List.cons.injEq, and_true] at hcs
    subst hcs
    simp only [if_true] at hz
    exact ⟨_, bytes_in (zs := zs) hl hm hz hwz (fun h => by cases h) (fun a' e c hc => by cases e; exact hcell c (by omega))⟩
theorem cellsAct : Tryz.prog.cellsOf 43 = 8 := by kernel_rfl
theorem cellsLoss : Tryz.prog.cellsOf 41 = 4 := by kernel_rfl
theorem cellsInt : Tryz.prog.cellsOf 3 = 1 := by kernel_rfl
theorem cellsU64 : Tryz.prog.cellsOf 39 = 1 := by kernel_rfl
theorem i64_wf {m : Int} (h : (Lit.int .i64 m).wf = true) : -9223372036854775808 ≤ m ∧ m ≤ 9223372036854775807 := by simpa [Lit.wf, IntKind.min, IntKind.max, IntKind.signed, IntKind.bits] using h
theorem act_in {fuel g o : Nat} {cs : List Value} {x : DataW H × List MemPlace} (hc : w.cells? 0 ⟨g, o, none⟩ 8 = some cs) (h : DataW.trod enc Tryz.prog w 0 (fun _ => true) true fuel 43 cs = some x) : ∃ kv vv y, ActAt w g o kv vv y := by
  obtain ⟨xs, n, -, -, hl, hlen, hf⟩ := DataW.trod_struct Tryz.underlying43 h
  obtain ⟨a0, a1, a2, a3, a4, a5, a6, a7, rfl⟩ := list_8 (by rw [hl, cellsAct])
  obtain ⟨x0, x1, x2, x3, x4, rfl⟩ := list_5 (show xs.length = 5 from hlen)
  have f0 := hf 0 _ rfl
  have f1 := hf 1 _ rfl
  have f2 := hf 2 _ rfl
  have f3 := hf 3 _ rfl
  have f4 := hf 4 _ rfl
  simp only [cellsInt, cells23, cellsLoss, List.drop_zero, List.take_succ_cons, List.take_zero, List.drop_succ_cons, List.getElem?_cons_zero, List.getElem?_cons_succ] at f0 f1 f2 f3 f4
  obtain ⟨n0, e0, -, w0⟩ := DataW.trod_int Tryz.underlying3 f0
  obtain ⟨n1, e1, -, w1⟩ := DataW.trod_int Tryz.underlying3 f1
  obtain ⟨k, hk⟩ := bytes_trod Tryz.underlying30 Tryz.underlying5 cells5 f2
  obtain ⟨v, hv⟩ := bytes_trod Tryz.underlying30 Tryz.underlying5 cells5 f3
  obtain ⟨ys, n', -, -, hl', hlen', hf'⟩ := DataW.trod_struct Tryz.underlying41 f4
  obtain ⟨y0, y1, y2, y3, rfl⟩ := list_4 (show ys.length = 4 from hlen')
  have g0 := hf' 0 _ rfl
  have g1 := hf' 1 _ rfl
  have g2 := hf' 2 _ rfl
  have g3 := hf' 3 _ rfl
  simp only [cellsInt, cellsU64, List.drop_zero, List.take_succ_cons, List.take_zero, List.drop_succ_cons, List.getElem?_cons_zero, List.getElem?_cons_succ] at g0 g1 g2 g3
  obtain ⟨m0, d0, -, -⟩ := DataW.trod_int Tryz.underlying3 g0
  obtain ⟨m1, d1, -, -⟩ := DataW.trod_int Tryz.underlying39 g1
  obtain ⟨m2, d2, -, -⟩ := DataW.trod_int Tryz.underlying3 g2
  obtain ⟨m3, d3, -, -⟩ := DataW.trod_int Tryz.underlying3 g3
  injection e0 with e0
  injection e1 with e1
  injection d0 with d0
  injection d1 with d1
  injection d2 with d2
  injection d3 with d3
  subst e0 e1 d0 d1 d2 d3
  have cc : ∀ i v, i < 8 → [(.int .i64 n0), .int .i64 n1, a2, a3, .int .i64 m0, .int .u64 m1, .int .i64 m2, .int .i64 m3][i]? = some v → w.cell? ⟨g, o + i, none⟩ = some v := fun i v hi hv => by
    have := cell_of_cells hc hi hv
    rwa [add_plain] at this
  exact ⟨a2, a3, ⟨n0, n1, k, v, m0, m1, m2, m3⟩, cc 0 _ (by omega) rfl, cc 1 _ (by omega) rfl, cc 2 _ (by omega) rfl, cc 3 _ (by omega) rfl, cc 4 _ (by omega) rfl, cc 5 _ (by omega) rfl, cc 6 _ (by omega) rfl, cc 7 _ (by omega) rfl, hk, hv, i64_wf w0, i64_wf w1⟩
theorem open_acts {v : Value} {d : DataW H} {ps : List MemPlace} (hv : Value.okWide Tryz.prog w .any base 38 v) (h : DataW.Trod enc Tryz.prog w 0 (fun _ => true) true 38 v d ps) : ∃ l, ActsAt w v l := by
  obtain ⟨a, len, cap, rfl⟩ := okWide_slice Tryz.underlying38 hv
  obtain ⟨fuel, hf⟩ := h
  rcases open_slice Tryz.underlying38 hf with ⟨hcs, -⟩ | ⟨a', len', cap', m, n, D, Pl, hcs, hb, hl, hm, hmm, -, hx⟩
  · simp [Value.cells] at hcs
    obtain ⟨rfl, rfl, rfl⟩ := hcs
    exact ⟨[], none, 0, rfl, Nat.le_refl _, Nat.zero_le _, fun i h => absurd h (by simp)⟩
  · simp [Value.cells] at hcs
    obtain ⟨rfl, rfl, rfl⟩ := hcs
    simp only [if_true] at hmm
    subst hmm
    rw [cellsAct] at hx
    have each : ∀ i, i < m → ∃ g o kv vv y, a' = ⟨g, o, none⟩ ∧ ActAt w g (o + i * 8) kv vv y := fun i hi => by
      obtain ⟨cs', h1, h2⟩ := hx i hi
      obtain ⟨g, o, sp⟩ := a'
      have hsp : sp = none := by
        obtain ⟨cs0, h0, -⟩ := hx 0 (by omega)
        obtain ⟨q1, q2, q3⟩ := World.cells?_some h0
        have q4 := q3 0 (by omega)
        obtain ⟨u, hu⟩ : ∃ u, cs0[0]? = some u := ⟨cs0[0]'(by omega), List.getElem?_eq_getElem (by omega)⟩
        rw [hu] at q4
        simpa [Addr.add] using World.cell?_spot q4
      subst hsp
      rw [add_plain] at h1
      obtain ⟨kv, vv, y, hy⟩ := act_in h1 h2
      exact ⟨g, o, kv, vv, y, rfl, hy⟩
    have each2 : ∀ i, i < len → ∃ y : ActV, ∃ g o kv vv, a' = ⟨g, o, none⟩ ∧ ActAt w g (o + i * 8) kv vv y := fun i hi => by
      obtain ⟨g, o, kv, vv, y, e1, e2⟩ := each i (by omega)
      exact ⟨y, g, o, kv, vv, e1, e2⟩
    obtain ⟨Y, hY⟩ := choose_lt each2
    refine ⟨(List.range len).map Y, some a', m, by simp, by simpa using hl, hm, fun i hi => ?_⟩
    obtain ⟨g, o, kv, vv, e1, e2⟩ := hY i (by simpa using hi)
    exact ⟨g, o, kv, vv, by rw [e1], by simpa using e2⟩
end
end
section
open Go.RowKit Go.H
set_option maxHeartbeats 1000000
def putW (x v : Bs) (l : List KV) : List KV := if wrong x v = 0 then putL (x, v) l else l
def delW (x : Bs) (l : List KV) : List KV := if wrong x [] = 0 then delL x l else l
theorem at1_delw {w0 w : World} {pn r d tp N k : Nat} {La Ll : List KV} {c : Nat → Nat} {kv : Value} {x : Bs} (hr1 : 1 ≤ r) (h : At1 w0 pn r d tp La Ll N k c w) (hk : BytesAt (Dt c) w kv x) (hr : La.length + Ll.length ≤ pn) (hk4 : k ≤ 80000) :
    Calls Tryz.prog 12 #[.pointer (some ⟨tp, 0, none⟩), kv] w fun e w' => e = .returned (.tuple #[.bool ((getL x La).isSome && decide (wrong x [] = 0)), .int .i64 (wrong x [])]) ∧ Hid (∃ c', At1 w0 pn r d tp (delW x La) Ll N k c' w' ∧ Fr (OwnR r c) w w' ∧ Ag w.heap.size c c') := by
  by_cases hw : wrong x [] = 0
  · refine (at1_del hr1 h hk hw hr hk4).mono ?_
    rintro e w' ⟨rfl, H⟩
    refine ⟨by rw [hw]; simp, Lib.hid ?_⟩
    unfold delW
    rw [if_pos hw]
    exact H.out
  · obtain ⟨Z, a, rfl, rfl, i⟩ := h
    obtain ⟨st, lm, km, nr, lr, gv, ov, sn, t⟩ := a.tr
    refine (tdel_wrong t.hd hk hw).mono ?_
    rintro e w' ⟨rfl, f⟩
    refine ⟨by simp [hw], Lib.hid ⟨c, ?_, f.mono (fun _ _ e => e.elim), fun _ _ => rfl⟩⟩
    unfold delW
    rw [if_neg hw]
    exact ⟨Z, a.fr0 f, rfl, rfl, i⟩
theorem at1_putw {w0 w : World} {pn r d tp N k : Nat} {La Ll : List KV} {c : Nat → Nat} {kv vv : Value} {x v : Bs} (hr1 : 1 ≤ r) (h : At1 w0 pn r d tp La Ll N k c w) (hk : BytesAt (Dt c) w kv x) (hv : BytesAt (Dt c) w vv v) (hr : La.length + Ll.length < pn) (hk4 : k ≤ 80000) :
    Calls Tryz.prog 10 #[.pointer (some ⟨tp, 0, none⟩), kv, vv] w fun e w' => e = .returned (.int .i64 (wrong x v)) ∧ Hid (∃ c', At1 w0 pn r d tp (putW x v La) Ll N (k + 1) c' w' ∧ Fr (OwnR r c) w w' ∧ Ag w.heap.size c c') := by
  by_cases hw : wrong x v = 0
  · refine (at1_put (x := (x, v)) hr1 h hk hv hw hr hk4).mono ?_
    rintro e w' ⟨rfl, H⟩
    refine ⟨by rw [hw]; rfl, Lib.hid ?_⟩
    unfold putW
    rw [if_pos hw]
    exact H.out
  · refine (at1_wrong h hk hv hw).mono ?_
    rintro e w' ⟨rfl, f⟩
    refine ⟨rfl, Lib.hid ⟨c, ?_, f.mono (fun _ _ e => e.elim), fun _ _ => rfl⟩⟩
    unfold putW
    rw [if_neg hw]
    exact (h.fr0 f).le (by omega)
structure TwA (w0 : World) (r r' d d' tp tp' : Nat) (L Ll L' Ll' : List KV) (N N' k : Nat) (c : Nat → Nat) (w : World) : Prop where
  a : At1 w0 698 r d tp L Ll N k c w
  b : At1 w0 698 r' d' tp' L' Ll' N' k c w
variable {w0 w w' : World} {r r' d d' tp tp' N N' k : Nat} {L Ll L' Ll' : List KV} {c c' : Nat → Nat}
theorem TwA.swap (h : TwA w0 r r' d d' tp tp' L Ll L' Ll' N N' k c w) : TwA w0 r' r d' d tp' tp L' Ll' L Ll N' N k c w := ⟨h.b, h.a⟩
theorem TwA.fr0 (h : TwA w0 r r' d d' tp tp' L Ll L' Ll' N N' k c w) (hf : Fr C0 w w') : TwA w0 r r' d d' tp tp' L Ll L' Ll' N N' k c w' := ⟨h.a.fr0 hf, h.b.fr0 hf⟩
theorem TwA.le {k' : Nat} (h : TwA w0 r r' d d' tp tp' L Ll L' Ll' N N' k c w) (hk : k ≤ k') : TwA w0 r r' d d' tp tp' L Ll L' Ll' N N' k' c w := ⟨h.a.le hk, h.b.le hk⟩
structure StepA (r : Nat) (c : Nat → Nat) (w : World) (c' : Nat → Nat) (w' : World) : Prop where
  fr : Fr (OwnR r c) w w'
  ag : Ag w.heap.size c c'
theorem StepA.bytes {v : Value} {l : Bs} (hr : 1 ≤ r) (h : StepA r c w c' w') (hv : BytesAt (Dt c) w v l) : BytesAt (Dt c') w' v l :=
  ((hv.mono (F' := fun b => c b = 0 ∧ b < w.heap.size) (fun b hb hl => ⟨hb, hl⟩)).fr h.fr (fun b hb e => by
    have e' : c b = r ∨ c b = r + 1 ∨ c b = r + 2 := e
    have := hb.1
    omega)).mono (fun b hb _ => (h.ag b hb.2).trans hb.1)
def DBlk (c : Nat → Nat) (w : World) (b : Nat) (o : Obj) : Prop := w.heap[b]? = some o ∧ c b = 0
theorem StepA.blk {b : Nat} {o : Obj} (hr : 1 ≤ r) (h : StepA r c w c' w') (hb : DBlk c w b o) : DBlk c' w' b o := by
  have hl := (Array.getElem?_eq_some_iff.1 hb.1).1
  refine ⟨h.fr.blk hb.1 (fun e => ?_), (h.ag b hl).trans hb.2⟩
  have e' : c b = r ∨ c b = r + 1 ∨ c b = r + 2 := e
  have := hb.2
  omega
theorem DBlk.fr0 {b : Nat} {o : Obj} (hb : DBlk c w b o) (hf : Fr C0 w w') : DBlk c w' b o := ⟨hf.blk hb.1 (fun h => h), hb.2⟩
theorem TwA.step {L2 : List KV} {Ll2 : List KV} {N2 k2 tp2 : Nat} (hx : OX r r') (h : TwA w0 r r' d d' tp tp' L Ll L' Ll' N N' k c w) (ha : At1 w0 698 r d tp2 L2 Ll2 N2 k2 c' w') (hk : k ≤ k2) (hf : Fr (OwnR r c) w w') (hag : Ag w.heap.size c c') : TwA w0 r r' d d' tp2 tp' L2 Ll2 L' Ll' N2 N' k2 c' w' :=
  ⟨ha, (h.b.stay hx.swap hf hag ha.cl).le hk⟩
theorem tw_put {kv vv : Value} {x v : Bs} (hx : OX r r') (h : TwA w0 r r' d d' tp tp' L Ll L' Ll' N N' k c w) (hk : BytesAt (Dt c) w kv x) (hv : BytesAt (Dt c) w vv v) (hk4 : k ≤ 300) :
    Calls Tryz.prog 10 #[.pointer (some ⟨tp, 0, none⟩), kv, vv] w fun e w' => e = .returned (.int .i64 (wrong x v)) ∧ Hid (∃ c', TwA w0 r r' d d' tp tp' (putW x v L) Ll L' Ll' N N' (k + 1) c' w' ∧ StepA r c w c' w') := by
  have h1 := h.a.len
  have h2 : Ll.length ≤ k := by obtain ⟨Z, _, _, e, i⟩ := h.a; rw [← e]; exact i.last
  refine (at1_putw hx.1 h.a hk hv (by omega) (by omega)).mono ?_
  rintro e w' ⟨rfl, H⟩
  obtain ⟨c', a', f, ag⟩ := H.out
  exact ⟨rfl, Lib.hid ⟨c', h.step hx a' (by omega) f ag, f, ag⟩⟩
theorem tw_del {kv : Value} {x : Bs} (hx : OX r r') (h : TwA w0 r r' d d' tp tp' L Ll L' Ll' N N' k c w) (hk : BytesAt (Dt c) w kv x) (hk4 : k ≤ 300) :
    Calls Tryz.prog 12 #[.pointer (some ⟨tp, 0, none⟩), kv] w fun e w' => e = .returned (.tuple #[.bool ((getL x L).isSome && decide (wrong x [] = 0)), .int .i64 (wrong x [])]) ∧ Hid (∃ c', TwA w0 r r' d d' tp tp' (delW x L) Ll L' Ll' N N' k c' w' ∧ StepA r c w c' w') := by
  have h1 := h.a.len
  have h2 : Ll.length ≤ k := by obtain ⟨Z, _, _, e, i⟩ := h.a; rw [← e]; exact i.last
  refine (at1_delw hx.1 h.a hk (by omega) (by omega)).mono ?_
  rintro e w' ⟨rfl, H⟩
  obtain ⟨c', a', f, ag⟩ := H.out
  exact ⟨rfl, Lib.hid ⟨c', h.step hx a' (by omega) f ag, f, ag⟩⟩
theorem tw_commit (hx : OX r r') (h : TwA w0 r r' d d' tp tp' L Ll L' Ll' N N' k c w) (hk4 : k ≤ 300) :
    Calls Tryz.prog 11 #[.pointer (some ⟨tp, 0, none⟩)] w fun e w' => e = .returned (.int .i64 0) ∧ Hid (∃ c', TwA w0 r r' d d' tp tp' L L L' Ll' (N + 1) N' (k + 1) c' w' ∧ StepA r c w c' w') := by
  refine (at1_commit hx.1 h.a (by omega)).mono ?_
  rintro e w' ⟨rfl, H⟩
  obtain ⟨c', a', f, ag⟩ := H.out
  exact ⟨rfl, Lib.hid ⟨c', h.step hx a' (by omega) f ag, f, ag⟩⟩
theorem tw_again {a kp tn ct : Int} (hx : OX r r') (h : TwA w0 r r' d d' tp tp' L Ll L' Ll' N N' k c w) :
    Calls Tryz.prog 19 #[.pointer (some ⟨d, 0, none⟩), .pointer (some ⟨tp, 0, none⟩), .agg #[.int .i64 a, .int .u64 kp, .int .i64 tn, .int .i64 ct]] w fun e w' => ∃ tp2, e = .returned (.pointer (some ⟨tp2, 0, none⟩)) ∧ Hid (∃ c', TwA w0 r r' d d' tp2 tp' Ll Ll L' Ll' N N' k c' w' ∧ StepA r c w c' w') := by
  refine (again_at hx.1 h.a (by omega) (by omega)).mono ?_
  rintro e w' ⟨tp2, rfl, H⟩
  obtain ⟨c', a', f, ag⟩ := H.out
  exact ⟨tp2, rfl, Lib.hid ⟨c', h.step hx a' (Nat.le_refl _) f ag, f, ag⟩⟩
theorem tw_range (hx : OX r r') (h : TwA w0 r r' d d' tp tp' L Ll L' Ll' N N' k c w) (hk3 : k ≤ 300) :
    Calls Tryz.prog 21 #[.pointer (some ⟨tp, 0, none⟩), .slice none 0 0, .slice none 0 0, .int .i64 999] w fun e w' => ∃ A cp, e = .returned (.tuple #[.slice A L.length cp, .int .i64 0]) ∧ Hid (Fr C0 w w' ∧ (∃ c', TwA w0 r r' d d' tp tp' L Ll L' Ll' N N' k c' w') ∧ PairsAt (fun _ => True) w' (.slice A L.length cp) L) := by
  refine (at1_range h.a (by omega)).mono ?_
  rintro e w' ⟨A, cp, rfl, H⟩
  obtain ⟨f, ⟨c', a', ag, cl⟩, p⟩ := H.out
  exact ⟨A, cp, rfl, Lib.hid ⟨f, ⟨c', a', h.b.move f ag cl⟩, p⟩⟩
end
section
open Go.RowKit Go.H
set_option maxHeartbeats 4000000
theorem again_calls {w : World} {av : Value} {acts : List ActV} (hk : ActsAt w av acts) :
    Calls Tryz.prog 4 #[av] w fun e w' => e = .returned (.bool true) ∧ Fr C0 w w' := by
  have hx : OX 1 4 := ⟨by omega, by omega, by omega⟩
  have HX := Lib.hid hx
  have HOP := Lib.hid (at1_open (w0 := w) (w := w) (c := fun _ => 0) (r := 1) (n := 700) (by omega) (by omega) (by omega) (Fr.refl _ _) (fun _ _ => rfl) (fun _ _ => rfl))
  obtain ⟨KA, kc, rfl, hk1, hk2, hk3⟩ := hk
  have HK3 := Lib.hid hk3
  unfold maxLen at hk2
  clear hk3 hx
  go_enter Tryz.func4, Tryz.ntmps4
  go_wp2_with fail
  refine HOP.out.mono ?_
  rintro e w1 ⟨tp, rfl, H1⟩
  obtain ⟨f1, c1, ag1, a1⟩ := H1.out
  have A1 := Lib.hid (And.intro ag1 a1)
  have HOP2 := Lib.hid (at1_open (w0 := w) (w := w1) (c := c1) (r := 4) (n := 700) (by omega) (by omega) (by omega) f1 ag1 a1.cl)
  clear HOP H1 f1 ag1 a1
  go_wp2_with fail
  refine HOP2.out.mono ?_
  rintro e w2 ⟨tp', rfl, H2⟩
  have P2 : Hid (∃ c, TwA w 1 4 (w.heap.size + 1) (w1.heap.size + 1) tp tp' [] [] [] [] 0 0 0 c w2) := Lib.hid (by
    obtain ⟨f2, c2, ag2, a2⟩ := H2.out
    exact ⟨c2, A1.out.2.move f2 ag2 a2.cl, a2⟩)
  generalize w1.heap.size + 1 = d' at *
  clear HOP2 H2 A1
  go_wp2_with fail
  go_loopw [4, 7] (fun av i wr => ∃ k : Nat, k ≤ 40 ∧ i = .int .i64 (k : Int) ∧ ∃ tp, av = .pointer (some ⟨tp, 0, none⟩) ∧ Hid (∃ L Ll N c, TwA w 1 4 (w.heap.size + 1) d' tp tp' L Ll L Ll N N (4 * k) c wr)) (fun _ i _ => 40 - (intOf i).toNat)
  case atStart => exact ⟨0, by omega, rfl, tp, rfl, Lib.hid (by obtain ⟨c, h⟩ := P2.out; exact ⟨[], [], 0, c, h⟩)⟩
  case round =>
    obtain ⟨k, hk, rfl, tp, rfl, HP⟩ := hrel
    clear P2
    by_cases hlt : k < acts.length ∧ k < 40
    · obtain ⟨hlt1, hlt2⟩ := hlt
      obtain ⟨L, Ll, N, c, hP⟩ := HP.out
      have HPP := Lib.hid hP
      obtain ⟨g, o, kv, vv, hKA, hact⟩ := HK3.out k hlt1
      subst hKA
      have h1 : (k : Int) < (acts.length : Int) := by omega
      have h2 : (k : Int) < 40 := by omega
      generalize acts[k] = x at *
      obtain ⟨kd, nn, key, val, af, kp, tn, ct⟩ := x
      have q0 := hP.a.fr.cell0 hact.c0
      have q1 := hP.a.fr.cell0 hact.c1
      have q2 := hP.a.fr.cell0 hact.c2
      have q3 := hP.a.fr.cell0 hact.c3
      have q4 := hP.a.fr.cell0 hact.c4
      have q5 := hP.a.fr.cell0 hact.c5
      have q6 := hP.a.fr.cell0 hact.c6
      have q7 := hP.a.fr.cell0 hact.c7
      obtain ⟨A1, n1, rfl, hn1, hn2⟩ := hact.key.form
      obtain ⟨A2, n2, rfl, hn3, hn4⟩ := hact.value.form
      have HKV := Lib.hid (And.intro hact.key hact.value)
      simp only [] at q0 q1 q2 q3 q4 q5 q6 q7 hn1 hn3
      clear hact hP HP
      go_upto_region 9 with fail
      have HB : Hid (DBlk c (wr.alloc (.cells #[.int .i64 kd, .int .i64 nn, .slice A1 key.length n1, .slice A2 val.length n2, .int .i64 af, .int .u64 kp, .int .i64 tn, .int .i64 ct] 43)) wr.heap.size _) := Lib.hid ⟨heap_alloc_new wr (.cells #[.int .i64 kd, .int .i64 nn, .slice A1 key.length n1, .slice A2 val.length n2, .int .i64 af, .int .u64 kp, .int .i64 tn, .int .i64 ct] 43), HPP.out.a.cl _ (Nat.le_refl _)⟩
      have HPA := Lib.hid (HPP.out.fr0 ((Fr.refl C0 wr).alloc (.cells #[.int .i64 kd, .int .i64 nn, .slice A1 key.length n1, .slice A2 val.length n2, .int .i64 af, .int .u64 kp, .int .i64 tn, .int .i64 ct] 43)))
      have HKV2 := Lib.hid (And.intro ((HPP.out.a.came HKV.out.1).fr0 ((Fr.refl C0 wr).alloc (.cells #[.int .i64 kd, .int .i64 nn, .slice A1 key.length n1, .slice A2 val.length n2, .int .i64 af, .int .u64 kp, .int .i64 tn, .int .i64 ct] 43))) ((HPP.out.a.came HKV.out.2).fr0 ((Fr.refl C0 wr).alloc (.cells #[.int .i64 kd, .int .i64 nn, .slice A1 key.length n1, .slice A2 val.length n2, .int .i64 af, .int .u64 kp, .int .i64 tn, .int .i64 ct] 43))))
      clear HPP HKV q0 q1 q2 q3 q4 q5 q6 q7
      generalize wr.alloc (.cells #[.int .i64 kd, .int .i64 nn, .slice A1 key.length n1, .slice A2 val.length n2, .int .i64 af, .int .u64 kp, .int .i64 tn, .int .i64 ct] 43) = wa at *
      generalize wr.heap.size = bx at *
      have b0 : wa.cell? ⟨bx, 0, none⟩ = some (.int .i64 kd) := blk_cell HB.out.1 0 rfl
      have b2 : wa.cell? ⟨bx, 2, none⟩ = some (.slice A1 key.length n1) := blk_cell HB.out.1 2 rfl
      have b3 : wa.cell? ⟨bx, 3, none⟩ = some (.slice A2 val.length n2) := blk_cell HB.out.1 3 rfl
      unfold maxLen at hn2 hn4
      obtain ⟨m, hm64, hml, hmm⟩ : ∃ m : Nat, m ≤ 64 ∧ m ≤ key.length ∧ (if (64 : Int) < (key.length : Int) then (64 : Int) else (key.length : Int)) = (m : Int) := ⟨min key.length 64, by omega, by omega, by split <;> omega⟩
      obtain ⟨m2, hm200, hml2, hmm2⟩ : ∃ m : Nat, m ≤ 200 ∧ m ≤ val.length ∧ (if (200 : Int) < (val.length : Int) then (200 : Int) else (val.length : Int)) = (m : Int) := ⟨min val.length 200, by omega, by omega, by split <;> omega⟩
      have hmc : (m : Int) ≤ (n1 : Int) := by omega
      have hmc2 : (m2 : Int) ≤ (n2 : Int) := by omega
      refine wp_region_L (Fr C0 wa) [] (by kernel_rfl) ?_
      have hSw0 : (Fr C0 wa) _ := (Fr.refl C0 wa).drew
      refine tk 0 hSw0 ?_
      refine tk 1 hSw0 ?_ (hy := by intro w_ hS_; have c2 := hS_.cell0 b2; have c3 := hS_.cell0 b3; first | (go_simp; done) | (go_simp; with_reducible rfl))
      refine tk 2 hSw0 ?_
      refine tk 3 hSw0 ?_ (hy := by intro w_ hS_; have c2 := hS_.cell0 b2; have c3 := hS_.cell0 b3; first | (go_simp; done) | (go_simp; with_reducible rfl))
      refine tk 4 hSw0 ?_ (hy := by intro w_ hS_; have c2 := hS_.cell0 b2; have c3 := hS_.cell0 b3; first | (go_simp; done) | (go_simp; with_reducible rfl))
      refine tk 5 hSw0 ?_ (hy := by intro w_ hS_; have c2 := hS_.cell0 b2; have c3 := hS_.cell0 b3; first | (go_simp; done) | (go_simp; with_reducible rfl))
      refine tk 6 hSw0 ?_
      refine tk 7 hSw0 ?_
      refine tk 8 hSw0 ?_ (hy := by intro w_ hS_; have c2 := hS_.cell0 b2; have c3 := hS_.cell0 b3; first | (go_simp; done) | (go_simp; with_reducible rfl))
      refine tk 9 hSw0 ?_
      refine tk 10 hSw0 ?_ (hy := by intro w_ hS_; have c2 := hS_.cell0 b2; have c3 := hS_.cell0 b3; first | (go_simp; done) | (go_simp; with_reducible rfl))
      refine tk 11 hSw0 ?_ (hy := by intro w_ hS_; have c2 := hS_.cell0 b2; have c3 := hS_.cell0 b3; first | (go_simp; done) | (go_simp; with_reducible rfl))
      refine tk 12 hSw0 ?_ (hy := by intro w_ hS_; have c2 := hS_.cell0 b2; have c3 := hS_.cell0 b3; first | (go_simp; done) | (go_simp; with_reducible rfl))
      refine tk 13 hSw0 ?_
      refine tk 14 hSw0 ?_
      refine tk 15 hSw0 ?_
      refine wpAnyL_done (by kernel_rfl) ?_ _
      have HBD := Lib.hid (HB.out.fr0 (Fr.refl C0 wa).drew)
      have HPD := Lib.hid (HPA.out.fr0 (Fr.refl C0 wa).drew)
      have HKD := Lib.hid ((HKV2.out.1.take hml).fr0 (Fr.refl C0 wa).drew)
      have HVD := Lib.hid ((HKV2.out.2.take hml2).fr0 (Fr.refl C0 wa).drew)
      have HKL : Hid ((key.take m).length = m) := Lib.hid (by rw [List.length_take]; omega)
      have HVL : Hid ((val.take m2).length = m2) := Lib.hid (by rw [List.length_take]; omega)
      clear HB HPA HKV2 b2 b3 hmm hmm2
      by_cases hk1 : kd = 1
      · subst hk1
        have HD1 := Lib.hid (tw_del HX.out HPD.out HKD.out (by omega))
        obtain ⟨p, hp⟩ : ∃ p, ((getL (key.take m) L).isSome && decide (wrong (key.take m) [] = 0)) = p := ⟨_, rfl⟩
        have HPP := Lib.hid hp
        rw [hp] at HD1
        clear hp
        go_wp2_with fail
        refine HD1.out.mono ?_
        rintro e w3 ⟨rfl, H3⟩
        obtain ⟨c3, t3, s3⟩ := H3.out
        have HD2 := Lib.hid (tw_del HX.out.swap t3.swap (s3.bytes (by omega) HKD.out) (by omega))
        rw [HPP.out] at HD2
        clear H3 t3 s3 HD1 HKD HVD HBD HPD HKL HVL HPP
        generalize (wrong (key.take m) [] : Int) = wr1 at *
        go_wp2_with fail
        refine HD2.out.mono ?_
        rintro e w4 ⟨rfl, H4⟩
        have HT := Lib.hid (show ∃ c, TwA w 1 4 (w.heap.size + 1) d' tp tp' (delW (key.take m) L) Ll (delW (key.take m) L) Ll N N (4 * k) c w4 from by obtain ⟨c4, t4, _⟩ := H4.out; exact ⟨c4, t4.swap⟩)
        clear HD2 H4 b0
        obtain ⟨c9, t9⟩ := HT.out
        have HL1 := Lib.hid (at1_len t9.a)
        have HL2 := Lib.hid (at1_len t9.b)
        have HN1 := Lib.hid (at1_number t9.a)
        have HN2 := Lib.hid (at1_number t9.b)
        clear t9
        go_wp2_with fail
        refine HL1.out.mono ?_
        rintro e w9 ⟨rfl, rfl⟩
        go_wp2_with fail
        refine HL2.out.mono ?_
        rintro e w9 ⟨rfl, rfl⟩
        go_wp2_with fail
        refine HN1.out.mono ?_
        rintro e w9 ⟨rfl, rfl⟩
        go_wp2_with fail
        refine HN2.out.mono ?_
        rintro e w9 ⟨rfl, rfl⟩
        clear HL1 HL2 HN1 HN2
        go_wp2
        go_roundw
        case rel => exact ⟨k + 1, by omega, by go_num, tp, rfl, Lib.hid (by obtain ⟨c9, t9⟩ := HT.out; exact ⟨_, _, _, c9, t9.le (by omega)⟩)⟩
        case measure => simp [intOf]; omega
      · have hk1b : (kd == 1) = false := beq_false_of_ne hk1
        by_cases hk4 : kd = 4
        · subst hk4
          have HC1 := Lib.hid (tw_commit HX.out HPD.out (by omega))
          clear HKD HVD HKL HVL
          go_wp2_with fail
          refine HC1.out.mono ?_
          rintro e w3 ⟨rfl, H3⟩
          obtain ⟨c3, t3, s3⟩ := H3.out
          have HC2 := Lib.hid (tw_commit HX.out.swap t3.swap (by omega))
          have HB3 := Lib.hid (s3.blk (by omega) HBD.out)
          clear H3 t3 s3 HC1 HBD HPD
          go_wp2_with fail
          refine HC2.out.mono ?_
          rintro e w4 ⟨rfl, H4⟩
          obtain ⟨c4, t4, s4⟩ := H4.out
          have HT := Lib.hid (show ∃ c, TwA w 1 4 (w.heap.size + 1) d' tp tp' L L L L (N + 1) (N + 1) (4 * k + 2) c w4 from ⟨c4, t4.swap⟩)
          have HB4 := Lib.hid (s4.blk (by omega) HB3.out)
          have e0 : w4.cell? ⟨bx, 0, none⟩ = some (.int .i64 4) := blk_cell HB4.out.1 0 rfl
          clear H4 t4 s4 HC2 HB3 HB4
          obtain ⟨c9, t9⟩ := HT.out
          have HL1 := Lib.hid (at1_len t9.a)
          have HL2 := Lib.hid (at1_len t9.b)
          have HN1 := Lib.hid (at1_number t9.a)
          have HN2 := Lib.hid (at1_number t9.b)
          clear t9
          go_wp2_with fail
          refine HL1.out.mono ?_
          rintro e w9 ⟨rfl, rfl⟩
          go_wp2_with fail
          refine HL2.out.mono ?_
          rintro e w9 ⟨rfl, rfl⟩
          go_wp2_with fail
          refine HN1.out.mono ?_
          rintro e w9 ⟨rfl, rfl⟩
          go_wp2_with fail
          refine HN2.out.mono ?_
          rintro e w9 ⟨rfl, rfl⟩
          clear HL1 HL2 HN1 HN2
          go_wp2
          go_roundw
          case rel => exact ⟨k + 1, by omega, by go_num, tp, rfl, Lib.hid (by obtain ⟨c9, t9⟩ := HT.out; exact ⟨_, _, _, c9, t9.le (by omega)⟩)⟩
          case measure => simp [intOf]; omega
        · have hk4b : (kd == 4) = false := beq_false_of_ne hk4
          by_cases hk5 : kd = 5
          · subst hk5
            have HC1 := Lib.hid (tw_commit HX.out HPD.out (by omega))
            clear HKD HVD HKL HVL
            go_wp2_with fail
            refine HC1.out.mono ?_
            rintro e w3 ⟨rfl, H3⟩
            obtain ⟨c3, t3, s3⟩ := H3.out
            have HC2 := Lib.hid (tw_commit HX.out.swap t3.swap (by omega))
            have HB3 := Lib.hid (s3.blk (by omega) HBD.out)
            clear H3 t3 s3 HC1 HBD HPD
            go_wp2_with fail
            refine HC2.out.mono ?_
            rintro e w4 ⟨rfl, H4⟩
            obtain ⟨c4, t4, s4⟩ := H4.out
            have HT := Lib.hid (show ∃ c, TwA w 1 4 (w.heap.size + 1) d' tp tp' L L L L (N + 1) (N + 1) (4 * k + 2) c w4 from ⟨c4, t4.swap⟩)
            have HB4 := Lib.hid (s4.blk (by omega) HB3.out)
            have e0 : w4.cell? ⟨bx, 0, none⟩ = some (.int .i64 5) := blk_cell HB4.out.1 0 rfl
            clear H4 t4 s4 HC2 HB3 HB4
            obtain ⟨c9, t9⟩ := HT.out
            have HL1 := Lib.hid (at1_len t9.a)
            have HL2 := Lib.hid (at1_len t9.b)
            have HN1 := Lib.hid (at1_number t9.a)
            have HN2 := Lib.hid (at1_number t9.b)
            clear t9
            go_wp2_with fail
            refine HL1.out.mono ?_
            rintro e w9 ⟨rfl, rfl⟩
            go_wp2_with fail
            refine HL2.out.mono ?_
            rintro e w9 ⟨rfl, rfl⟩
            go_wp2_with fail
            refine HN1.out.mono ?_
            rintro e w9 ⟨rfl, rfl⟩
            go_wp2_with fail
            refine HN2.out.mono ?_
            rintro e w9 ⟨rfl, rfl⟩
            clear HL1 HL2 HN1 HN2
            go_wp2
            go_roundw
            case rel => exact ⟨k + 1, by omega, by go_num, tp, rfl, Lib.hid (by obtain ⟨c9, t9⟩ := HT.out; exact ⟨_, _, _, c9, t9.le (by omega)⟩)⟩
            case measure => simp [intOf]; omega
          · have hk5b : (kd == 5) = false := beq_false_of_ne hk5
            by_cases hk9 : kd = 9
            · subst hk9
              have HC1 := Lib.hid (tw_commit HX.out HPD.out (by omega))
              clear HKD HVD HKL HVL
              go_wp2_with fail
              refine HC1.out.mono ?_
              rintro e w3 ⟨rfl, H3⟩
              obtain ⟨c3, t3, s3⟩ := H3.out
              have HC2 := Lib.hid (tw_commit HX.out.swap t3.swap (by omega))
              have HB3 := Lib.hid (s3.blk (by omega) HBD.out)
              clear H3 t3 s3 HC1 HBD HPD
              go_wp2_with fail
              refine HC2.out.mono ?_
              rintro e w4 ⟨rfl, H4⟩
              obtain ⟨c4, t4, s4⟩ := H4.out
              have HT := Lib.hid (show ∃ c, TwA w 1 4 (w.heap.size + 1) d' tp tp' L L L L (N + 1) (N + 1) (4 * k + 2) c w4 from ⟨c4, t4.swap⟩)
              have HB4 := Lib.hid (s4.blk (by omega) HB3.out)
              have e0 : w4.cell? ⟨bx, 0, none⟩ = some (.int .i64 9) := blk_cell HB4.out.1 0 rfl
              have e4 : w4.cell? ⟨bx, 4, none⟩ = some (.int .i64 af) := blk_cell HB4.out.1 4 rfl
              have e5 : w4.cell? ⟨bx, 5, none⟩ = some (.int .u64 kp) := blk_cell HB4.out.1 5 rfl
              have e6 : w4.cell? ⟨bx, 6, none⟩ = some (.int .i64 tn) := blk_cell HB4.out.1 6 rfl
              have e7 : w4.cell? ⟨bx, 7, none⟩ = some (.int .i64 ct) := blk_cell HB4.out.1 7 rfl
              have HAG := Lib.hid (tw_again (a := af) (kp := kp) (tn := tn) (ct := ct) HX.out t4.swap)
              clear H4 t4 s4 HC2 HB3 HB4 HT
              go_wp2_with fail
              refine HAG.out.mono ?_
              rintro e w5 ⟨tp2, rfl, H5⟩
              have HT := Lib.hid (show ∃ c, TwA w 1 4 (w.heap.size + 1) d' tp2 tp' L L L L (N + 1) (N + 1) (4 * k + 2) c w5 from by obtain ⟨c5, t5, _⟩ := H5.out; exact ⟨c5, t5⟩)
              clear H5 HAG e0 e4 e5 e6 e7
              obtain ⟨c9, t9⟩ := HT.out
              have HL1 := Lib.hid (at1_len t9.a)
              have HL2 := Lib.hid (at1_len t9.b)
              have HN1 := Lib.hid (at1_number t9.a)
              have HN2 := Lib.hid (at1_number t9.b)
              clear t9
              go_wp2_with fail
              refine HL1.out.mono ?_
              rintro e w9 ⟨rfl, rfl⟩
              go_wp2_with fail
              refine HL2.out.mono ?_
              rintro e w9 ⟨rfl, rfl⟩
              go_wp2_with fail
              refine HN1.out.mono ?_
              rintro e w9 ⟨rfl, rfl⟩
              go_wp2_with fail
              refine HN2.out.mono ?_
              rintro e w9 ⟨rfl, rfl⟩
              clear HL1 HL2 HN1 HN2
              go_wp2
              go_roundw
              case rel => exact ⟨k + 1, by omega, by go_num, tp2, rfl, Lib.hid (by obtain ⟨c9, t9⟩ := HT.out; exact ⟨_, _, _, c9, t9.le (by omega)⟩)⟩
              case measure => simp [intOf]; omega
            · have hk9b : (kd == 9) = false := beq_false_of_ne hk9
              have HD1 := Lib.hid (tw_put HX.out HPD.out HKD.out HVD.out (by omega))
              go_wp2_with fail
              refine HD1.out.mono ?_
              rintro e w3 ⟨rfl, H3⟩
              obtain ⟨c3, t3, s3⟩ := H3.out
              have HD2 := Lib.hid (tw_put HX.out.swap t3.swap (s3.bytes (by omega) HKD.out) (s3.bytes (by omega) HVD.out) (by omega))
              clear H3 t3 s3 HD1 HKD HVD HBD HPD HKL HVL
              generalize (wrong (key.take m) (val.take m2) : Int) = wr1 at *
              go_wp2_with fail
              refine HD2.out.mono ?_
              rintro e w4 ⟨rfl, H4⟩
              have HT := Lib.hid (show ∃ c, TwA w 1 4 (w.heap.size + 1) d' tp tp' (putW (key.take m) (val.take m2) L) Ll (putW (key.take m) (val.take m2) L) Ll N N (4 * k + 2) c w4 from by obtain ⟨c4, t4, _⟩ := H4.out; exact ⟨c4, t4.swap⟩)
              clear HD2 H4 b0
              obtain ⟨c9, t9⟩ := HT.out
              have HL1 := Lib.hid (at1_len t9.a)
              have HL2 := Lib.hid (at1_len t9.b)
              have HN1 := Lib.hid (at1_number t9.a)
              have HN2 := Lib.hid (at1_number t9.b)
              clear t9
              go_wp2_with fail
              refine HL1.out.mono ?_
              rintro e w9 ⟨rfl, rfl⟩
              go_wp2_with fail
              refine HL2.out.mono ?_
              rintro e w9 ⟨rfl, rfl⟩
              go_wp2_with fail
              refine HN1.out.mono ?_
              rintro e w9 ⟨rfl, rfl⟩
              go_wp2_with fail
              refine HN2.out.mono ?_
              rintro e w9 ⟨rfl, rfl⟩
              clear HL1 HL2 HN1 HN2
              go_wp2
              go_roundw
              case rel => exact ⟨k + 1, by omega, by go_num, tp, rfl, Lib.hid (by obtain ⟨c9, t9⟩ := HT.out; exact ⟨_, _, _, c9, t9.le (by omega)⟩)⟩
              case measure => simp [intOf]; omega
    · have hex : ¬ (k : Int) < (acts.length : Int) ∨ (k : Int) < (acts.length : Int) ∧ ¬ (k : Int) < 40 := by omega
      obtain ⟨L, Ll, N, c, hP⟩ := HP.out
      have HR1 := Lib.hid (tw_range HX.out hP (by omega))
      have HFR := Lib.hid hP.a.fr
      clear hlt hP HP
      rcases hex with h1 | ⟨h1, h2⟩
      all_goals
        go_wp2_with fail
        refine HR1.out.mono ?_
        rintro e w5 ⟨A5, c5, rfl, H5⟩
        have HR2 := Lib.hid (by obtain ⟨cx, hcx⟩ := H5.out.2.1; exact tw_range HX.out.swap hcx.swap (by omega))
        go_wp2_with fail
        refine HR2.out.mono ?_
        rintro e w6 ⟨A6, c6, rfl, H6⟩
        have HP6 := Lib.hid H6.out.2.1
        have HSM := Lib.hid (fun (w_ : World) (hf : Fr C0 w6 w_) => same_calls ((H5.out.2.2.fr0 H6.out.1).fr0 hf) (H6.out.2.2.fr0 hf))
        rw [decide_eq_true rfl] at HSM
        have HCA : Hid (∀ w_, Fr C0 w6 w_ → Calls Tryz.prog 18 #[.pointer (some ⟨tp, 0, none⟩)] w_ fun e w' => e = .returned (.int .i64 0) ∧ Fr C0 w_ w') := Lib.hid (fun (w_ : World) (hf : Fr C0 w6 w_) => by obtain ⟨cx, hcx⟩ := HP6.out; exact at1_check (by omega) (hcx.b.fr0 hf))
        have HTD := Lib.hid (by obtain ⟨cx, hcx⟩ := HP6.out; exact told_calls hcx.a.cl)
        have F06 := Lib.hid (by obtain ⟨cx, hcx⟩ := HP6.out; exact hcx.a.fr)
        clear HR1 HR2 H5 H6
        go_wp2_with fail
        refine HTD.out.mono ?_
        rintro e w7 ⟨rfl, f7⟩
        have F7 := Lib.hid f7
        clear f7
        go_wp2_with fail
        refine (HSM.out _ F7.out).mono ?_
        rintro e w8 ⟨rfl, f8⟩
        have F8 := Lib.hid (F7.out.trans0 f8)
        clear f8 F7
        go_wp2_with fail
        refine (HCA.out _ F8.out).mono ?_
        rintro e w9 ⟨rfl, f9⟩
        have F9 := Lib.hid (F8.out.trans0 f9)
        clear f9
        go_wp2
        go_ret
        exact ⟨rfl, F06.out.trans0 F9.out⟩
end
end Go.Proofs.YtcmicdcikechkaaGreat
