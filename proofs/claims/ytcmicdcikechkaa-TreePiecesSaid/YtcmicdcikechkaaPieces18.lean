import Derived.Test.YtcmicdcikechkaaPieces17
import Derived.Deep.CutRange
import Derived.Deep.CutBlock
import Derived.Deep.DeepCutAuto
set_option linter.all false
section
namespace Go.Proofs.Ytcmicdcikechkaa
open Go.RowKit Go.H
set_option maxHeartbeats 2000000
set_option maxRecDepth 100000
def natV (k : Nat) : Value := .int .i64 (k : Int)
structure WorkAt (c : Nat → Nat) (q : Nat) (w : World) (wp tp : Nat) (gone : List Nat) : Prop where
  ex : ∃ gv, w.heap[wp]? = some (.cells #[.pointer (some ⟨tp, 0, none⟩), gv] 60 (0, 0)) ∧ w.ownsRow 0 3 1 gv gone.length (gone.map natV) ∧ c wp = q ∧ ∀ b, gv.ownBlock = some b → c b = q
theorem WorkAt.fr {C : Nat → Prop} {c : Nat → Nat} {q : Nat} {w w' : World} {wp tp : Nat} {gone : List Nat} (h : WorkAt c q w wp tp gone) (hf : Fr C w w') (h1 : ∀ b, C b → c b ≠ q) : WorkAt c q w' wp tp gone := by
  obtain ⟨gv, a, b, e, f⟩ := h
  exact ⟨gv, hf.blk a (fun k => h1 _ k e), own_kept b hf (fun b hb k => h1 _ k (f b hb)), e, f⟩
theorem WorkAt.fr0 {c : Nat → Nat} {q : Nat} {w w' : World} {wp tp : Nat} {gone : List Nat} (h : WorkAt c q w wp tp gone) (hf : Fr C0 w w') : WorkAt c q w' wp tp gone := h.fr hf (fun _ k => k.elim)
theorem WorkAt.ag {c c' : Nat → Nat} {q : Nat} {w : World} {wp tp : Nat} {gone : List Nat} (h : WorkAt c q w wp tp gone) (ha : Ag w.heap.size c c') : WorkAt c' q w wp tp gone := by
  obtain ⟨gv, a, b, e, f⟩ := h
  exact ⟨gv, a, b, (ha _ (Array.getElem?_eq_some_iff.1 a).1).trans e, fun x hx => (ha x (b.lt x hx).2).trans (f x hx)⟩
def goneOf (t : T) : List Nat := match t.nm with | .page id => [id] | .mem .. => []
theorem work_add {c : Nat → Nat} {q : Nat} {w w1 : World} {wp tp k : Nat} {gone : List Nat} {gv gv1 : Value} (hc : Cl w c) (hb : w.heap[wp]? = some (.cells #[.pointer (some ⟨tp, 0, none⟩), gv] 60 (0, 0))) (ho : w.ownsRow 0 3 1 gv gone.length (gone.map natV)) (hq : c wp = q) (hg : ∀ b, gv.ownBlock = some b → c b = q)
    (o1 : w1.ownsRow 0 3 1 gv1 (gone.length + 1) ((gone.map natV) ++ [natV k])) (f1 : Fr (fun b => gv.ownBlock = some b) w w1) (k1 : ∀ b, gv1.ownBlock = some b → gv.ownBlock = some b ∨ w.heap.size ≤ b) :
    ∃ c', Ag w.heap.size c c' ∧ Cl (w1.setCell ⟨wp, 1, none⟩ gv1) c' ∧ Fr (fun b => c b = q) w (w1.setCell ⟨wp, 1, none⟩ gv1) ∧ WorkAt c' q (w1.setCell ⟨wp, 1, none⟩ gv1) wp tp (gone ++ [k]) ∧ ∀ b, c' b = 0 → c b = 0 := by
  have hag : Ag w.heap.size c (setc c gv1.ownBlock q) := setc_ag hg k1
  have hwl := (Array.getElem?_eq_some_iff.1 hb).1
  have hne : ∀ b, gv.ownBlock = some b → b ≠ wp := by
    intro b e h
    subst h
    obtain ⟨cur, h2⟩ := own_blk ho e
    rw [hb] at h2; simp at h2
  have hne1 : ∀ b, gv1.ownBlock = some b → b ≠ wp := fun b e h => (k1 b e).elim (fun h2 => hne b h2 h) (fun h2 => by omega)
  have hf2 : Fr (fun b => b = wp) w1 (w1.setCell ⟨wp, 1, none⟩ gv1) := (Fr.refl (fun b => b = wp) w1).setCell (p := ⟨wp, 1, none⟩) (.inr rfl) _
  have hb1 := f1.blk hb (fun e => hne _ e rfl)
  refine ⟨setc c gv1.ownBlock q, hag, fun b hbl => ?_, (f1.mono fun b _ e => hg b e).trans hf2 (fun b _ e => by rw [e]; exact hq), ⟨gv1, blk_set (i := 1) hb1 gv1, ?_, (hag wp hwl).trans hq, fun b e => by simp [setc, e]⟩, fun b h => ?_⟩
  · have h1 := f1.size
    have h2 := hf2.size
    unfold setc
    split
    · rename_i e; have := (o1.lt b e).2; omega
    · exact hc b (by omega)
  · have := own_kept o1 hf2 hne1
    simpa using this
  · unfold setc at h
    split at h
    · rename_i e
      rcases k1 b e with h2 | h2
      · exact (hg b h2).trans h
      · exact hc b h2
    · exact h
def NewPage (w : World) (d n : Nat) (v lv kv : Value) (xs kvs : List Value) : Prop :=
  w.ownsRow 0 62 2 lv (xs.length / 2) xs ∧
    ((d = 0 ∧ v = wLeaf n ∧ w.heap[n]? = some (.cells #[.int .i64 0, lv] 73 (0, 0))) ∨
     (¬ d = 0 ∧ v = wInner n ∧ w.heap[n]? = some (.cells #[.int .i64 0, lv, kv] 80 (0, 0)) ∧ w.ownsRow 0 20 1 kv kvs.length kvs))
structure CopiedRes (c : Nat → Nat) (rn q : Nat) (w : World) (pg : Nat → Option Bs) (N d : Nat) (t : T) (wp tp : Nat) (gone : List Nat) (e : Ending) (w' : World) : Prop where
  fr : Fr (fun b => c b = q) w w'
  ex : ∃ v n lv kv xs kvs c', e = .returned v ∧ NewPage w' d n v lv kv xs kvs ∧ All2 (Rep c rn w pg N False d) t.ks kvs ∧ xs.length = t.l.length * 2 ∧
    ItemCells (fun b => c' b = 0 ∧ b ≠ n ∧ ¬ lv.ownBlock = some b ∧ ¬ kv.ownBlock = some b) w' xs t.l ∧
    w.heap.size ≤ n ∧ c' n = 0 ∧ (∀ b, lv.ownBlock = some b → w.heap.size ≤ b ∧ c' b = 0) ∧ (∀ b, kv.ownBlock = some b → w.heap.size ≤ b ∧ c' b = 0 ∧ b ≠ n ∧ ¬ lv.ownBlock = some b) ∧ (¬ lv.ownBlock = some n) ∧
    Ag w.heap.size c c' ∧ Cl w' c' ∧ WorkAt c' q w' wp tp (gone ++ goneOf t)
theorem copied_calls {c : Nat → Nat} {r rn q : Nat} {w : World} {tp st wp : Nat} {S : SSt} {D : DSt} {d m : Nat} {t : T} {v : Value} {gone : List Nat} (hq0 : q ≠ 0) (hqr : q ≠ r) (hqn : q ≠ rn) (h : Hd c r w tp st S D) (hc : Cl w c) (hw : WorkAt c q w wp tp gone) (hr : Rep c rn w (pgs D) D.blocks False (d + 1) t v) (hs : Shape (d + 1) m t) (hm : 1 ≤ m) (hgl : gone.length ≤ 1000000) :
    Calls Try.prog 53 #[.pointer (some ⟨wp, 0, none⟩), v] w (CopiedRes c rn q w (pgs D) D.blocks d t wp tp gone) := by
  have HL := Lib.hid (load_calls h hc hr hs hm)
  obtain ⟨tx, y, rfl⟩ := hr.iface
  obtain ⟨gv, hb, ho, hcq, hg⟩ := hw.ex
  have w0 := blk_cell hb 0 rfl
  have HB := Lib.hid hb
  have HO := Lib.hid ho
  have HCQ := Lib.hid hcq
  have HG := Lib.hid hg
  have HW := Lib.hid hw
  have HC := Lib.hid hc
  have HR := Lib.hid hr
  have HS := Lib.hid hs
  clear h hc hr hs hb ho hcq hg hw
  go_enter Try.func53, Try.ntmps53
  go_wp2_with fail
  refine HL.out.mono ?_
  rintro e w1 ⟨f1, h1⟩
  rcases h1 with ⟨hX, _⟩ | ⟨v1, nb, g, o, kvs, rfl, hl, hks0⟩
  · exact hX.elim
  have F1 := Lib.hid f1
  have HLD := Lib.hid hl
  have HKS0 := Lib.hid hks0
  clear HL f1 hl hks0
  have HNUM : Hid (Num w1 v1 t.id) := by
    obtain ⟨⟨lv, h0, _, _, h3⟩, _⟩ := HLD.out
    rcases h3 with ⟨_, rfl⟩ | ⟨_, rfl, _⟩
    · exact Lib.hid (.inr ⟨nb, .inl rfl, h0⟩)
    · exact Lib.hid (.inr ⟨nb, .inr rfl, h0⟩)
  have HFR := Lib.hid (fresh_calls HNUM.out)
  go_wp2_with fail
  refine HFR.out.mono ?_
  rintro e w2 ⟨rfl, rfl⟩
  go_upto_if 16 with fail
  go_cut [] (fun wx => ∃ c1, Hid (Ag w1.heap.size c c1) ∧ Hid (Cl wx c1) ∧ Hid (Fr (fun b => c b = q) w1 wx) ∧ Hid (WorkAt c1 q wx wp tp (gone ++ goneOf t)) ∧ Hid (∀ b, c1 b = 0 → c b = 0))
  case first =>
    have HC1 := Lib.hid (HC.out.mono F1.out.size)
    have HW1 := Lib.hid (HW.out.fr0 F1.out)
    obtain ⟨nm, l, ks⟩ := t
    cases nm with
    | mem n0 g0 o0 =>
      have hid0 : T.id (.node (.mem n0 g0 o0) l ks) = 0 := rfl
      have HWF : Hid (WorkAt c q w1 wp tp (gone ++ goneOf (.node (.mem n0 g0 o0) l ks))) := Lib.hid (by rw [show goneOf (.node (.mem n0 g0 o0) l ks) = [] from rfl, List.append_nil]; exact HW1.out)
      rw [hid0]
      clear hid0
      go_wp2_with fail
      go_meet
      case rel => exact ⟨c, Lib.hid (Ag.refl _ _), HC1, Lib.hid (Fr.refl _ _), HWF, Lib.hid (fun _ h => h)⟩
    | page id =>
      have hid1 : T.id (.node (.page id) l ks) = id := rfl
      have hidp : id ≠ 0 := by have := HR.out.2.1; omega
      have hdec : decide (id = 0) = false := by simp [hidp]
      rw [hid1, hdec]
      rw [hid1] at HNUM
      clear hid1 hdec hidp
      have HGO : Hid (gone ++ goneOf (.node (.page id) l ks) = gone ++ [id]) := Lib.hid rfl
      have hb1 := F1.out.blk HB.out (fun h => h)
      have HB1 := Lib.hid hb1
      have HO1 := Lib.hid (own_kept HO.out F1.out (fun _ _ h => h))
      have d1 := blk_cell hb1 1 rfl
      have hnwp : ¬ gv.ownBlock = some wp := fun e => by
        obtain ⟨cur, h2⟩ := own_blk HO1.out e
        rw [hb1] at h2; simp at h2
      clear hb1
      go_wp2_with fail
      refine wp_region_L (Fr (fun b => gv.ownBlock = some b) w1) [11] (by kernel_rfl) ?_
      have hSw0 : (Fr (fun b => gv.ownBlock = some b) w1) _ := (Fr.refl _ w1).drew
      refine wpAnyL_take 0 (oi := ⟨(some 17), (.move (.tmp 0)), 57, "work.go:13", #[], none⟩) (v := ?v_1) rfl (by kernel_rfl) (fun _ _ _ h => h) hSw0 (yieldsIf_of rfl ?hy_1) ?hrest_1
      case hy_1 => (intro w_ hS_; (first | (go_simp; done) | (go_simp; with_reducible rfl)))
      try simp only [Act.put, List.setIfInBounds_toArray, List.set_cons_zero, List.set_cons_succ]
      refine wpAnyL_take 1 (oi := ⟨(some 18), (.move (.tmp 0)), 57, "work.go:13", #[], none⟩) (v := ?v_2) rfl (by kernel_rfl) (fun _ _ _ h => h) hSw0 (yieldsIf_of rfl ?hy_2) ?hrest_2
      case hy_2 => (intro w_ hS_; (first | (go_simp; done) | (go_simp; with_reducible rfl)))
      try simp only [Act.put, List.setIfInBounds_toArray, List.set_cons_zero, List.set_cons_succ]
      refine wpAnyL_take 2 (oi := ⟨(some 19), (.nilCheck (.tmp 18)), 0, "work.go:13", #[⟨1, .data⟩], none⟩) (v := ?v_3) rfl (by kernel_rfl) (fun _ _ _ h => h) hSw0 (yieldsIf_of rfl ?hy_3) ?hrest_3
      case hy_3 => (intro w_ hS_; (first | (go_simp; done) | (go_simp; with_reducible rfl)))
      try simp only [Act.put, List.setIfInBounds_toArray, List.set_cons_zero, List.set_cons_succ]
      refine wpAnyL_take 3 (oi := ⟨(some 20), (.fieldAddr 60 (.tmp 19) 1), 0, "work.go:13", #[⟨2, .data⟩], none⟩) (v := ?v_4) rfl (by kernel_rfl) (fun _ _ _ h => h) hSw0 (yieldsIf_of rfl ?hy_4) ?hrest_4
      case hy_4 => (intro w_ hS_; (first | (go_simp; done) | (go_simp; with_reducible rfl)))
      try simp only [Act.put, List.setIfInBounds_toArray, List.set_cons_zero, List.set_cons_succ]
      refine wpAnyL_take 4 (oi := ⟨(some 21), (.load 58 (.tmp 20)), 58, "work.go:13", #[⟨3, .data⟩], none⟩) (v := ?v_5) rfl (by kernel_rfl) (fun _ _ _ h => h) hSw0 (yieldsIf_of rfl ?hy_5) ?hrest_5
      case hy_5 => (intro w_ hS_; have b1 := hS_.cell d1 hnwp; (first | (go_simp; done) | (go_simp; with_reducible rfl)))
      try simp only [Act.put, List.setIfInBounds_toArray, List.set_cons_zero, List.set_cons_succ]
      refine wpAnyL_take 5 (oi := ⟨(some 22), (.move (.tmp 5)), 20, "work.go:13", #[], none⟩) (v := ?v_6) rfl (by kernel_rfl) (fun _ _ _ h => h) hSw0 (yieldsIf_of rfl ?hy_6) ?hrest_6
      case hy_6 => (intro w_ hS_; (first | (go_simp; done) | (go_simp; with_reducible rfl)))
      try simp only [Act.put, List.setIfInBounds_toArray, List.set_cons_zero, List.set_cons_succ]
      refine wpAnyL_one 6 (o := ⟨(some 23), (.call ⟨(.value (.func 40)), #[(.tmp 22)], #[20]⟩), 3, "work.go:13", #[⟨5, .data⟩], none⟩) rfl (by kernel_rfl) rfl (by kernel_rfl) (fun K hK => ?_)
      go_simp
      refine (num_calls (HNUM.out.fr0 (Fr.refl C0 w1).drew)).mono ?_
      rintro e w5 ⟨rfl, rfl⟩
      simp only []
      refine hK.out _ _ ?kS7 (fun hSw1 => ?kR7)
      case kS7 => exact (Fr.refl _ w1).drew
      clear hK K
      try simp only [Act.put, List.setIfInBounds_toArray, List.set_cons_zero, List.set_cons_succ]
      refine wpAnyL_one 7 (o := ⟨(some 24), (.buildSlice 58 1 #[(0, (.tmp 23))]), 58, "work.go:13", #[⟨6, .data⟩], none⟩) rfl (by kernel_rfl) rfl (by kernel_rfl) (fun K hK => ?_)
      go_simp
      refine hK.out _ _ ?kS8 (fun hSw2 => ?kR8)
      case kS8 => exact ((Fr.refl _ w1).alloc _).drew
      clear hK K
      try simp only [Act.put, List.setIfInBounds_toArray, List.set_cons_zero, List.set_cons_succ]
      refine wpAnyL_one 8 (o := ⟨(some 25), (.call ⟨(.builtin .append), #[(.tmp 21), (.tmp 24)], #[58, 58]⟩), 58, "work.go:13", #[⟨4, .data⟩, ⟨7, .data⟩, ⟨6, .chain⟩], none⟩) rfl (by kernel_rfl) rfl (by kernel_rfl) (fun K hK => ?_)
      refine wp_app sl_int _ _ rfl (v := gv) (xv := .slice (some ⟨w1.heap.size, 0, none⟩) 1 1) rfl rfl (own_kept HO1.out (((Fr.refl C0 w1).drew.alloc (.cells #[natV id] 3))) (fun _ _ h => h)) (Row.ofBlock (F := fun _ => True) (heap_alloc_new _ _) trivial (by unfold maxLen; omega) rfl) (by simp [Value.oneCell', natV]) (by unfold maxLen; omega) (by omega) (Nat.zero_le _) ?_
      intro v6 w6 o6 f6 k6 nil6
      have F6 := Lib.hid (((Fr.refl (fun b => gv.ownBlock = some b) w1).drew.alloc (.cells #[natV id] 3)).trans f6 (fun _ _ h => h))
      have hWs : (w1.drew.alloc (.cells #[natV id] 3)).heap.size = w1.heap.size + 1 := by simp [go_sem]
      have HADD := Lib.hid (work_add (k := id) (HC1.out.mono (w' := w1.drew.alloc (.cells #[natV id] 3)) (by omega)) (((Fr.refl C0 w1).drew.alloc (.cells #[natV id] 3)).blk HB1.out (fun h => h)) (own_kept HO1.out (((Fr.refl C0 w1).drew.alloc (.cells #[natV id] 3))) (fun _ _ h => h)) HCQ.out HG.out o6 f6 k6)
      have hb6 := F6.out.blk HB1.out hnwp
      have e1 := blk_cell hb6 1 rfl
      have z1 := blk_free 1 hb6
      obtain ⟨A6, c6, rfl, -⟩ := own_form o6
      clear o6 f6 k6 nil6 hb6
      refine hK.out _ _ ?kS9 (fun hSw3 => ?kR9)
      case kS9 => exact F6.out
      clear hK K
      try simp only [Act.put, List.setIfInBounds_toArray, List.set_cons_zero, List.set_cons_succ]
      refine wpAnyL_take 9 (oi := ⟨(some 26), (.nilCheck (.tmp 17)), 0, "work.go:13", #[⟨0, .data⟩, ⟨0, .phase⟩, ⟨1, .phase⟩, ⟨2, .phase⟩, ⟨3, .phase⟩, ⟨4, .phase⟩, ⟨5, .phase⟩, ⟨6, .phase⟩, ⟨7, .phase⟩, ⟨8, .phase⟩], none⟩) (v := ?v_10) rfl (by kernel_rfl) (fun _ _ _ h => h) hSw3 (yieldsIf_of rfl ?hy_10) ?hrest_10
      case hy_10 => (intro w_ hS_; (first | (go_simp; done) | (go_simp; with_reducible rfl)))
      try simp only [Act.put, List.setIfInBounds_toArray, List.set_cons_zero, List.set_cons_succ]
      refine wpAnyL_take 10 (oi := ⟨(some 27), (.fieldAddr 60 (.tmp 26) 1), 0, "work.go:13", #[⟨9, .data⟩, ⟨0, .phase⟩, ⟨1, .phase⟩, ⟨2, .phase⟩, ⟨3, .phase⟩, ⟨4, .phase⟩, ⟨5, .phase⟩, ⟨6, .phase⟩, ⟨7, .phase⟩, ⟨8, .phase⟩], none⟩) (v := ?v_11) rfl (by kernel_rfl) (fun _ _ _ h => h) hSw3 (yieldsIf_of rfl ?hy_11) ?hrest_11
      case hy_11 => (intro w_ hS_; (first | (go_simp; done) | (go_simp; with_reducible rfl)))
      try simp only [Act.put, List.setIfInBounds_toArray, List.set_cons_zero, List.set_cons_succ]
      refine wpAnyL_late 11 (o := ⟨none, (.store 58 (.tmp 27) (.tmp 25)), 0, "work.go:13", #[⟨10, .data⟩, ⟨8, .data⟩, ⟨8, .chain⟩, ⟨0, .phase⟩, ⟨1, .phase⟩, ⟨2, .phase⟩, ⟨3, .phase⟩, ⟨4, .phase⟩, ⟨5, .phase⟩, ⟨6, .phase⟩, ⟨7, .phase⟩, ⟨8, .phase⟩], none⟩) rfl (by kernel_rfl) rfl (by kernel_rfl) (fun K hK => ?_)
      go_simp
      refine hK.out _ _ ?_; clear hK K
      try simp only [Act.put, List.setIfInBounds_toArray, List.set_cons_zero, List.set_cons_succ]
      refine wpAnyL_done (by kernel_rfl) ?_ _
      obtain ⟨c7, ag7, cl7, f7, wk7, z7⟩ := HADD.out
      have A7 := Lib.hid ag7
      have C7 := Lib.hid cl7
      have F7 := Lib.hid f7
      have W7 := Lib.hid wk7
      have Z7 := Lib.hid z7
      clear ag7 cl7 f7 wk7 z7
      go_wp2_with fail
      go_meet
      case rel =>
        refine ⟨c7, Lib.hid (fun b hb => A7.out b (by omega)), C7, Lib.hid ((((Fr.refl (fun b => c b = q) w1).drew.alloc _)).trans F7.out (fun _ _ h => h)), ?_, Z7⟩
        rw [HGO.out]
        exact W7
  case rest =>
    obtain ⟨c1, HA1, HCL1, HFR1, HW1, HZ1⟩ := hcut
    obtain ⟨hN, hn1, hg1, hks⟩ := HLD.out
    have hnq : ∀ b, (c b = rn ∨ c b = 0) → ¬ c b = q := fun b h e => h.elim (fun h => hqn (e.symm.trans h)) (fun h => hq0 (e.symm.trans h))
    obtain ⟨lv0, m0, m1w, hit0, h3⟩ := hN
    have m1 := HFR1.out.cell m1w (hnq _ hn1)
    obtain ⟨xs, hrow, hcells⟩ := hit0.cells
    have HXL : Hid (xs.length = t.l.length * 2) := Lib.hid hcells.length
    have HROW := Lib.hid (hrow.fr HFR1.out (fun b h e => hq0 (e.symm.trans h)))
    have HCELLS := Lib.hid ((hcells.mono (F' := fun b => c b = 0 ∧ b < w1.heap.size) (fun b h hl => ⟨h, hl⟩)).fr HFR1.out (fun b h e => hq0 (e.symm.trans h.1)))
    obtain ⟨A1, ca1, rfl, hca, hcam⟩ := hrow.form
    have hl4 : t.l.length ≤ 4 := by obtain ⟨nm, l, ks⟩ := t; exact HS.out.2.1
    have hkl := All2.length hks
    have HONE := Lib.hid hcells.one
    have HKSL : Hid (if d = 0 then t.ks = [] else t.ks.length = t.l.length + 1) := Lib.hid (by obtain ⟨nm, l, ks⟩ := t; have := HS.out.2.2.2; split <;> rename_i hd; rwa [if_pos hd] at this; rw [if_neg hd] at this; exact this.1)
    have HN1 := Lib.hid hn1
    have HG1 := Lib.hid hg1
    have HNQ := Lib.hid hnq
    clear hit0 hrow hcells hks hn1 hg1 hnq m0 m1w
    unfold maxLen at hcam
    rcases h3 with ⟨hkv0, rfl⟩ | ⟨hne, rfl, kc, k0, k1, k2, k3⟩
    · have hd0 : d = 0 := by
        have h1 := HKSL.out
        split at h1
        · assumption
        · rw [hkv0] at hkl; simp only [List.length_nil] at hkl; omega
      have HKE := Lib.hid hkl
      have HD0 := Lib.hid hd0
      have HKV0 := Lib.hid hkv0
      clear hkl hd0 hkv0
      go_wp2_with (at_builtin; go_must (refine wpl_app sl_item rfl _ _ rfl (v := .slice none 0 0) (xv := .slice A1 t.l.length ca1) rfl rfl (B := wc.heap.size) (World.ownsRow_nil _ _ _ _) HROW.out HONE.out (by unfold maxLen; omega) (by omega) (by omega) ?_); intro v5 w5 o5 f5 k5 nil5; obtain ⟨A5, c5, rfl, -⟩ := own_form o5)
      rw [Nat.zero_add, List.nil_append] at o5
      go_ret
      have hf5 : Fr C0 wc w5 := f5.mono (fun b _ h => by simp [Value.ownBlock] at h)
      have hA := (Fr.refl C0 w5).alloc (.cells #[.int .i64 0, .slice A5 t.l.length c5] 73)
      have hnew := heap_alloc_new w5 (.cells #[.int .i64 0, .slice A5 t.l.length c5] 73)
      have hsz1 := F1.out.size
      have hsz2 := HFR1.out.size
      have hsz5 := hf5.size
      have hob := fun b e => o5.lt b e
      refine ⟨(((F1.out.mono (fun _ _ h => h.elim)).trans HFR1.out (fun _ _ h => h)).trans0 hf5).trans0 hA, _, w5.heap.size, _, .slice none 0 0, xs, [], c1, rfl, ⟨?_, .inl ⟨HD0.out, rfl, hnew⟩⟩, ?_, HXL.out, ?_, by omega, HCL1.out _ (by omega), fun b e => ⟨by have := (hob b e).1; omega, HCL1.out _ (hob b e).1⟩, fun b e => by simp [Value.ownBlock] at e, fun e => by have := (hob _ e).2; omega, fun b hb => HA1.out b (by omega), HCL1.out.mono (by simp; omega), (HW1.out.fr0 hf5).fr0 hA⟩
      · have := own_kept (own_base (B' := 0) o5 (fun _ _ => Nat.zero_le _)) hA (fun _ _ h => h)
        rw [show xs.length / 2 = t.l.length by have := HXL.out; omega]
        exact this
      · have := HKS0.out
        rwa [HKV0.out] at this
      · refine ((HCELLS.out.fr0 hf5).fr0 hA).mono fun b hb _ => ⟨by rw [HA1.out b hb.2]; exact hb.1, by omega, fun e => by have := (hob b e).1; omega, fun e => by simp [Value.ownBlock] at e⟩
    · have hd0 : ¬ d = 0 := by
        intro hd
        have h1 := HKSL.out
        rw [if_pos hd] at h1
        rw [h1] at hkl
        exact hne (List.eq_nil_of_length_eq_zero hkl.symm)
      have hkn : kvs.length = t.l.length + 1 := by
        have h1 := HKSL.out
        rw [if_neg hd0] at h1
        omega
      have HKN := Lib.hid hkn
      have HD0 := Lib.hid hd0
      have hq1 := HNQ.out _ HN1.out
      have hq2 := HNQ.out _ (HG1.out hne)
      have k0' := HFR1.out.cell k0 hq1
      have HKROW : Hid (Row (fun _ => True) wc (.slice (some ⟨g, o, none⟩) kvs.length kc) kvs.length 1 kvs) := Lib.hid ⟨_, kc, rfl, k1, k2, by omega, fun _ => ⟨g, o, rfl, trivial, fun j u hj => HFR1.out.cell (k3 j u hj) hq2⟩⟩
      have HKONE : Hid (∀ u ∈ kvs, u.oneCell' = true) := by
        refine Lib.hid fun u hu => ?_
        obtain ⟨i, hi, rfl⟩ := List.getElem_of_mem hu
        obtain ⟨tx, y, hy⟩ := (All2.get i (by omega) hi HKS0.out).iface
        rw [hy]; rfl
      have hk5 : kvs.length ≤ 5 := by omega
      unfold maxLen at k2
      clear hkl hd0 k3 hkn hq1 hq2
      go_wp2_with fail
      refine wp_region_L (Fr C0 wc) [] (by kernel_rfl) ?_
      have hSw0 : (Fr C0 wc) _ := (Fr.refl C0 wc).drew
      refine wpAnyL_take 0 (oi := ⟨(some 34), (.move (.tmp 6)), 77, "work.go:16", #[], none⟩) (v := ?v_12) rfl (by kernel_rfl) (fun _ _ _ h => h) hSw0 (yieldsIf_of rfl ?hy_12) ?hrest_12
      case hy_12 => (intro w_ hS_; (first | (go_simp; done) | (go_simp; with_reducible rfl)))
      try simp only [Act.put, List.setIfInBounds_toArray, List.set_cons_zero, List.set_cons_succ]
      refine wpAnyL_take 1 (oi := ⟨(some 35), (.nilCheck (.tmp 34)), 0, "work.go:16", #[⟨0, .data⟩], none⟩) (v := ?v_13) rfl (by kernel_rfl) (fun _ _ _ h => h) hSw0 (yieldsIf_of rfl ?hy_13) ?hrest_13
      case hy_13 => (intro w_ hS_; (first | (go_simp; done) | (go_simp; with_reducible rfl)))
      try simp only [Act.put, List.setIfInBounds_toArray, List.set_cons_zero, List.set_cons_succ]
      refine wpAnyL_take 2 (oi := ⟨(some 36), (.fieldAddr 80 (.tmp 35) 1), 0, "work.go:16", #[⟨1, .data⟩], none⟩) (v := ?v_14) rfl (by kernel_rfl) (fun _ _ _ h => h) hSw0 (yieldsIf_of rfl ?hy_14) ?hrest_14
      case hy_14 => (intro w_ hS_; (first | (go_simp; done) | (go_simp; with_reducible rfl)))
      try simp only [Act.put, List.setIfInBounds_toArray, List.set_cons_zero, List.set_cons_succ]
      refine wpAnyL_take 3 (oi := ⟨(some 37), (.load 71 (.tmp 36)), 71, "work.go:16", #[⟨2, .data⟩], none⟩) (v := ?v_15) rfl (by kernel_rfl) (fun _ _ _ h => h) hSw0 (yieldsIf_of rfl ?hy_15) ?hrest_15
      case hy_15 => (intro w_ hS_; have b1 := hS_.cell0 m1; have b2 := hS_.cell0 k0'; (first | (go_simp; done) | (go_simp; with_reducible rfl)))
      try simp only [Act.put, List.setIfInBounds_toArray, List.set_cons_zero, List.set_cons_succ]
      refine wpAnyL_take 5 (oi := ⟨(some 39), (.move (.tmp 6)), 77, "work.go:16", #[], none⟩) (v := ?v_16) rfl (by kernel_rfl) (fun _ _ _ h => h) hSw0 (yieldsIf_of rfl ?hy_16) ?hrest_16
      case hy_16 => (intro w_ hS_; (first | (go_simp; done) | (go_simp; with_reducible rfl)))
      try simp only [Act.put, List.setIfInBounds_toArray, List.set_cons_zero, List.set_cons_succ]
      refine wpAnyL_take 6 (oi := ⟨(some 40), (.nilCheck (.tmp 39)), 0, "work.go:16", #[⟨5, .data⟩], none⟩) (v := ?v_17) rfl (by kernel_rfl) (fun _ _ _ h => h) hSw0 (yieldsIf_of rfl ?hy_17) ?hrest_17
      case hy_17 => (intro w_ hS_; (first | (go_simp; done) | (go_simp; with_reducible rfl)))
      try simp only [Act.put, List.setIfInBounds_toArray, List.set_cons_zero, List.set_cons_succ]
      refine wpAnyL_take 7 (oi := ⟨(some 41), (.fieldAddr 80 (.tmp 40) 2), 0, "work.go:16", #[⟨6, .data⟩], none⟩) (v := ?v_18) rfl (by kernel_rfl) (fun _ _ _ h => h) hSw0 (yieldsIf_of rfl ?hy_18) ?hrest_18
      case hy_18 => (intro w_ hS_; (first | (go_simp; done) | (go_simp; with_reducible rfl)))
      try simp only [Act.put, List.setIfInBounds_toArray, List.set_cons_zero, List.set_cons_succ]
      refine wpAnyL_take 8 (oi := ⟨(some 42), (.load 78 (.tmp 41)), 78, "work.go:16", #[⟨7, .data⟩], none⟩) (v := ?v_19) rfl (by kernel_rfl) (fun _ _ _ h => h) hSw0 (yieldsIf_of rfl ?hy_19) ?hrest_19
      case hy_19 => (intro w_ hS_; have b1 := hS_.cell0 m1; have b2 := hS_.cell0 k0'; (first | (go_simp; done) | (go_simp; with_reducible rfl)))
      try simp only [Act.put, List.setIfInBounds_toArray, List.set_cons_zero, List.set_cons_succ]
      refine wpAnyL_one 4 (o := ⟨(some 38), (.call ⟨(.builtin .append), #[(.const (.slice none 0 0)), (.tmp 37)], #[71, 71]⟩), 71, "work.go:16", #[⟨3, .data⟩], none⟩) rfl (by kernel_rfl) rfl (by kernel_rfl) (fun K hK => ?_)
      refine wp_app sl_item _ _ rfl (v := .slice none 0 0) (xv := .slice A1 t.l.length ca1) rfl rfl (B := wc.heap.size) (World.ownsRow_nil _ _ _ _) (HROW.out.fr0 (by assumption)) HONE.out (by unfold maxLen; omega) (by omega) (by simp) ?_
      intro v5 w5 o5 f5 k5 nil5
      rw [Nat.zero_add, List.nil_append] at o5
      obtain ⟨A5, c5, rfl, -⟩ := own_form o5
      have F5 := Lib.hid ((Fr.refl C0 wc).drew.trans (f5.mono (C2 := C0) (fun b _ h => by simp [Value.ownBlock] at h)) (fun _ _ h => h))
      have O5 := Lib.hid o5
      have hs5 := F5.out.size
      clear o5 f5 k5 nil5
      refine hK.out _ _ ?kS20 (fun hSw1 => ?kR20)
      case kS20 => exact F5.out
      clear hK K
      try simp only [Act.put, List.setIfInBounds_toArray, List.set_cons_zero, List.set_cons_succ]
      refine wpAnyL_one 9 (o := ⟨(some 43), (.call ⟨(.builtin .append), #[(.const (.slice none 0 0)), (.tmp 42)], #[78, 78]⟩), 78, "work.go:16", #[⟨8, .data⟩, ⟨4, .chain⟩], none⟩) rfl (by kernel_rfl) rfl (by kernel_rfl) (fun K hK => ?_)
      refine wp_app sl_any _ _ rfl (v := .slice none 0 0) (xv := .slice (some ⟨g, o, none⟩) kvs.length kc) rfl rfl (B := w5.heap.size) (World.ownsRow_nil _ _ _ _) (HKROW.out.fr0 F5.out) HKONE.out (by unfold maxLen; omega) (by omega) (by simp) ?_
      intro v6 w6 o6 f6 k6 nil6
      rw [Nat.zero_add, List.nil_append] at o6
      obtain ⟨A6, c6, rfl, -⟩ := own_form o6
      have f6' := f6.mono (C2 := C0) (fun b _ h => by simp [Value.ownBlock] at h)
      have F6 := Lib.hid (F5.out.trans0 f6')
      have O6 := Lib.hid o6
      have O56 := Lib.hid (own_kept O5.out f6' (fun _ _ h => h))
      have hs6 := f6'.size
      clear o6 f6 k6 nil6 f6'
      refine hK.out _ _ ?kS21 (fun hSw2 => ?kR21)
      case kS21 => exact F6.out
      clear hK K
      try simp only [Act.put, List.setIfInBounds_toArray, List.set_cons_zero, List.set_cons_succ]
      refine wpAnyL_take 10 (oi := ⟨(some 44), (.build 80 #[(1, (.tmp 38)), (2, (.tmp 43))]), 80, "work.go:16", #[⟨4, .data⟩, ⟨9, .data⟩], none⟩) (v := ?v_22) rfl (by kernel_rfl) (fun _ _ _ h => h) hSw2 (yieldsIf_of rfl ?hy_22) ?hrest_22
      case hy_22 => (intro w_ hS_; (first | (go_simp; done) | (go_simp; with_reducible rfl)))
      try simp only [Act.put, List.setIfInBounds_toArray, List.set_cons_zero, List.set_cons_succ]
      refine wpAnyL_one 11 (o := ⟨(some 45), (.box 80 (.tmp 44)), 77, "work.go:16", #[⟨10, .data⟩], none⟩) rfl (by kernel_rfl) rfl (by kernel_rfl) (fun K hK => ?_)
      go_simp
      refine hK.out _ _ ?kS23 (fun hSw3 => ?kR23)
      case kS23 => exact F6.out.alloc _
      clear hK K
      try simp only [Act.put, List.setIfInBounds_toArray, List.set_cons_zero, List.set_cons_succ]
      refine wpAnyL_take 12 (oi := ⟨(some 46), (.makeInterface 77 (.tmp 45)), 20, "work.go:16", #[⟨11, .data⟩], none⟩) (v := ?v_24) rfl (by kernel_rfl) (fun _ _ _ h => h) hSw3 (yieldsIf_of rfl ?hy_24) ?hrest_24
      case hy_24 => (intro w_ hS_; (first | (go_simp; done) | (go_simp; with_reducible rfl)))
      try simp only [Act.put, List.setIfInBounds_toArray, List.set_cons_zero, List.set_cons_succ]
      refine wpAnyL_take 13 (oi := ⟨(some 4), (.assign (.tmp 46)), 20, "work.go:16", #[⟨12, .data⟩, ⟨9, .chain⟩, ⟨0, .phase⟩, ⟨1, .phase⟩, ⟨2, .phase⟩, ⟨3, .phase⟩, ⟨4, .phase⟩, ⟨5, .phase⟩, ⟨6, .phase⟩, ⟨7, .phase⟩, ⟨8, .phase⟩, ⟨9, .phase⟩, ⟨10, .phase⟩, ⟨11, .phase⟩, ⟨12, .phase⟩], none⟩) (v := ?v_25) rfl (by kernel_rfl) (fun _ _ _ h => h) hSw3 (yieldsIf_of rfl ?hy_25) ?hrest_25
      case hy_25 => (intro w_ hS_; (first | (go_simp; done) | (go_simp; with_reducible rfl)))
      try simp only [Act.put, List.setIfInBounds_toArray, List.set_cons_zero, List.set_cons_succ]
      refine wpAnyL_done (by kernel_rfl) ?_ _
      go_wp2
      go_ret
      have hA := (Fr.refl C0 w6).alloc (.cells #[.int .i64 0, .slice A5 t.l.length c5, .slice A6 kvs.length c6] 80)
      have hnew := heap_alloc_new w6 (.cells #[.int .i64 0, .slice A5 t.l.length c5, .slice A6 kvs.length c6] 80)
      have hsz1 := F1.out.size
      have hsz2 := HFR1.out.size
      have hob5 := fun b e => O5.out.lt b e
      have hob6 := fun b e => O6.out.lt b e
      refine ⟨((F1.out.mono (fun _ _ h => h.elim)).trans HFR1.out (fun _ _ h => h)).trans0 (F6.out.trans0 hA), _, w6.heap.size, _, .slice A6 kvs.length c6, xs, kvs, c1, rfl, ⟨?_, .inr ⟨HD0.out, rfl, hnew, own_kept (own_base (B' := 0) O6.out (fun _ _ => Nat.zero_le _)) hA (fun _ _ h => h)⟩⟩, HKS0.out, HXL.out, ?_, by omega, HCL1.out _ (by omega), fun b e => ⟨by have := (hob5 b e).1; omega, HCL1.out _ (hob5 b e).1⟩, fun b e => ⟨by have := (hob6 b e).1; omega, HCL1.out _ (by have := (hob6 b e).1; omega), fun h => by have := (hob6 b e).2; omega, fun h => by have h1 := (hob6 b e).1; have h2 := (hob5 b h).2; omega⟩, fun e => by have := (hob5 _ e).2; omega, fun b hb => HA1.out b (by omega), HCL1.out.mono (by simp; omega), (HW1.out.fr0 F6.out).fr0 hA⟩
      · have := own_kept (own_base (B' := 0) O56.out (fun _ _ => Nat.zero_le _)) hA (fun _ _ h => h)
        rw [show xs.length / 2 = t.l.length by have := HXL.out; omega]
        exact this
      · refine ((HCELLS.out.fr0 F6.out).fr0 hA).mono fun b hb _ => ⟨by rw [HA1.out b hb.2]; exact hb.1, by omega, fun e => by have := (hob5 b e).1; omega, fun e => by have := (hob6 b e).1; omega⟩
end Go.Proofs.Ytcmicdcikechkaa
end
