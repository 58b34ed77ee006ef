import Derived.Test.YtcmicdcikechkaaGreatEmpty26
import Derived.Test.YtcmicdcikechkaaGreatEmpty18
set_option linter.all false
section
namespace Go.Proofs.YtcmicdcikechkaaGreat
open Go.RowKit Go.H
set_option maxHeartbeats 2000000
set_option maxRecDepth 100000
theorem tput_old {c : Nat → Nat} {r rn : Nat} {w : World} {tp st lm km : Nat} {S : SSt} {D : DSt} {d : Nat} {t : T} {nr lr gv ov kv vv : Value} {ns nd ls ld : Int} {k v : Bs} {gone : List Nat} (hr0 : r ≠ 0) (hrn : rn ≠ 0) (hrr : rn ≠ r) (h : Hd c r w tp st S D) (hc : Cl w c) (ht : w.heap[tp]? = some (.cells (TreeCells st nr ns nd lr ls ld lm gv ov km) 77 (0, 0))) (hg : w.ownsRow 0 3 1 gv gone.length (gone.map natV)) (hgo : ∀ b, gv.ownBlock = some b → c b = r) (hr : Rep c rn w (pgs D) D.blocks False d t nr) (hs : Shape d 1 t) (hso : Sorted (flat d t)) (hns : ns = ((flat d t).length : Int)) (hnd : nd = (d : Int)) (hd : d ≤ 90000) (hnl : (flat d t).length ≤ 1000000) (hdi : dirtyN d t ≤ 500000)
    (hk : BytesAt (Dt c) w kv k) (hv : BytesAt (Dt c) w vv v) (hw : wrong k v = 0) (hl : S.state.length ≤ S.pages) (hlen : gone.length ≤ 900000) :
    Calls Tryz.prog 10 #[.pointer (some ⟨tp, 0, none⟩), kv, vv] w (TPutRes c r rn w tp st lm km S D (some (d, t)) lr ov ls ld gone (k, v)) := by
  have HM := Lib.hid (fun (w_ : World) (hf : Fr C0 w w_) => may_calls (h.fr0 hf) (hk.fr0 hf) (hv.fr0 hf))
  rw [hw] at HM
  have hkl : k.length ≤ 64 ∧ v.length ≤ 1800 := by
    unfold wrong at hw
    split at hw
    · cases hw
    · split at hw
      · cases hw
      · omega
  have HKV : Hid (KVok (k, v)) := Lib.hid (by
    refine ⟨?_, hkl.1, hkl.2⟩
    show 1 ≤ k.length
    unfold wrong at hw
    split at hw
    · cases hw
    · rename_i h; exact List.length_pos_iff.2 h)
  have HCK := Lib.hid (fun (w_ : World) (hf : Fr C0 w w_) => clone_calls (hk.fr0 hf) (by omega))
  have HCV := Lib.hid (fun (w_ : World) (hf : Fr C0 w w_) => clone_calls (hv.fr0 hf) (by omega))
  obtain ⟨A, cc, rfl, -⟩ := hk.form
  obtain ⟨A', cc', rfl, -⟩ := hv.form
  obtain ⟨tx0, y0, rfl⟩ := hr.iface
  have F0 := Lib.hid ((Fr.refl C0 w).alloc (.cells #[.int .i64 0] 28))
  have F1 := Lib.hid ((F0.out.drew).alloc (.cells #[.pointer (some ⟨tp, 0, none⟩), .slice none 0 0] 89))
  have t1 : w.cell? ⟨tp, 1, none⟩ = some (.iface tx0 y0) := blk_cell ht 1 rfl
  have t2 : w.cell? ⟨tp, 2, none⟩ = some (.int .i64 ns) := blk_cell ht 2 rfl
  have t3 : w.cell? ⟨tp, 3, none⟩ = some (.int .i64 nd) := blk_cell ht 3 rfl
  have HT := Lib.hid ht
  have HH := Lib.hid h
  have HC := Lib.hid hc
  have HG := Lib.hid hg
  have HGO := Lib.hid hgo
  have HR := Lib.hid hr
  have HS := Lib.hid hs
  have HSO := Lib.hid hso
  have HNS := Lib.hid hns
  have HND := Lib.hid hnd
  clear h hc ht hg hgo hk hv hw hr hs hso hns hnd
  go_enter_defers Tryz.func10, Tryz.ntmps10
  go_wp2_with fail
  refine (HM.out _ F0.out).mono ?_
  rintro e w1 ⟨rfl, rfl⟩
  go_wp2_with fail
  refine (HCK.out _ F1.out).mono ?_
  rintro e w2 ⟨k2, rfl, f2, b2⟩
  have F2 := Lib.hid (F1.out.trans0 f2)
  have F12 := Lib.hid f2
  have B2 := Lib.hid b2
  obtain ⟨A2, c2, rfl, -⟩ := b2.form
  have S2 := f2.size
  clear HM HCK f2 b2
  go_wp2_with fail
  refine (HCV.out _ F2.out).mono ?_
  rintro e w3 ⟨v3, rfl, f3, b3⟩
  have F3 := Lib.hid (F2.out.trans0 f3)
  have F23 := Lib.hid f3
  have B3 := Lib.hid b3
  obtain ⟨A3, c3, rfl, -⟩ := b3.form
  clear HCV f3 b3
  have F4 := Lib.hid (F3.out.alloc (.cells #[.slice A2 k.length c2, .slice A3 v.length c3] 92))
  have t1' := F4.out.cell0 t1
  have t2' := F4.out.cell0 t2
  have t3' := F4.out.cell0 t3
  clear t1 t2 t3
  go_wp2_with fail
  have f34 := (((Fr.refl C0 w3).alloc (.cells #[.slice A2 k.length c2, .slice A3 v.length c3] 92)).alloc (.cells #[.iface tx0 y0, .int .i64 ns, .int .i64 nd] 73))
  have hsb := heap_alloc_new (w3.alloc (.cells #[.slice A2 k.length c2, .slice A3 v.length c3] 92)) (.cells #[.iface tx0 y0, .int .i64 ns, .int .i64 nd] 73)
  rw [show (w3.alloc (.cells #[.slice A2 k.length c2, .slice A3 v.length c3] 92)).heap.size = w3.heap.size + 1 by simp] at hsb
  generalize (w3.alloc (.cells #[.slice A2 k.length c2, .slice A3 v.length c3] 92)).alloc (.cells #[.iface tx0 y0, .int .i64 ns, .int .i64 nd] 73) = w4 at *
  have hl4 : w3.heap.size + 1 < w4.heap.size := (Array.getElem?_eq_some_iff.1 hsb).1
  have hs1 : ((w.alloc (.cells #[.int .i64 0] 28)).drew.alloc (.cells #[.pointer (some ⟨tp, 0, none⟩), .slice none 0 0] 89)).heap.size = w.heap.size + 2 := by simp
  have hs3 := F23.out.size
  have f14 : Fr C0 ((w.alloc (.cells #[.int .i64 0] 28)).drew.alloc (.cells #[.pointer (some ⟨tp, 0, none⟩), .slice none 0 0] 89)) w4 := (F12.out.trans0 F23.out).trans0 f34
  have hbe : w4.heap[w.heap.size]? = some (.cells #[.int .i64 0] 28 (0, 0)) := f14.blk (((Fr.refl C0 _).drew.alloc _).blk (heap_alloc_new w _) (fun h => h)) (fun h => h)
  have hbw : w4.heap[w.heap.size + 1]? = some (.cells #[.pointer (some ⟨tp, 0, none⟩), .slice none 0 0] 89 (0, 0)) := f14.blk (by
    have := heap_alloc_new ((w.alloc (.cells #[.int .i64 0] 28)).drew) (.cells #[.pointer (some ⟨tp, 0, none⟩), .slice none 0 0] 89)
    rwa [show ((w.alloc (.cells #[.int .i64 0] 28)).drew).heap.size = w.heap.size + 1 by simp] at this) (fun h => h)
  have f04 : Fr C0 w w4 := F3.out.trans0 f34
  obtain ⟨q, hq0, hq1, hq2, hq3⟩ := own_new HC.out r rn
  obtain ⟨c1, hce, hcw, hcn, hc0, hag, hcl⟩ : ∃ c1 : Nat → Nat, c1 w.heap.size = q + r + rn + 1 ∧ c1 (w.heap.size + 1) = q ∧ c1 (w3.heap.size + 1) = q + r + rn + 1 ∧ (∀ b, w.heap.size + 2 ≤ b → b ≠ w3.heap.size + 1 → c1 b = 0) ∧ Ag w.heap.size c c1 ∧ Cl w4 c1 := by
    refine ⟨fun b => if b = w.heap.size then q + r + rn + 1 else if b = w.heap.size + 1 then q else if b = w3.heap.size + 1 then q + r + rn + 1 else c b, by simp, by simp, ?_, fun b h1 h2 => ?_, fun b hb => ?_, fun b hb => ?_⟩
    · simp only []; rw [if_neg (by omega), if_neg (by omega)]; simp
    · simp only []; rw [if_neg (by omega), if_neg (by omega), if_neg h2]; exact HC.out b (by omega)
    · simp only []; rw [if_neg (by omega), if_neg (by omega), if_neg (by omega)]
    · simp only []; rw [if_neg (by omega), if_neg (by omega), if_neg (by omega)]; exact HC.out b (by omega)
  have k2 := ((B2.out.mono (F' := fun b => w.heap.size + 2 ≤ b ∧ b < w3.heap.size) (fun b h hl => ⟨by omega, by omega⟩)).fr0 (F23.out.trans0 f34)).mono (F' := Dt c1) (fun b h _ => hc0 b h.1 (by omega))
  have k3 := ((B3.out.mono (F' := fun b => w.heap.size + 2 ≤ b ∧ b < w3.heap.size) (fun b h hl => ⟨by omega, by omega⟩)).fr0 f34).mono (F' := Dt c1) (fun b h _ => hc0 b h.1 (by omega))
  refine (wput_calls (x := (k, v)) hq1 hq2 hq3 hrn d 1 c1 w4 t (.iface tx0 y0) [] ((HH.out.ag hag).fr0 f04) hcl ⟨_, hbw, World.ownsRow_nil _ _ _ _, hcw, fun b e => by simp [Value.ownBlock] at e⟩ ((Rep.ag hag HR.out).fr0 f04) HS.out (Nat.le_refl _) HSO.out k2 k3 HKV.out (by show 0 + d ≤ _; omega)).mono ?_
  rintro e w5 ⟨f5, c5, gone2, ag5, cl5, wk5, hgl, hend⟩
  have hX : ∀ b, b < w4.heap.size → c1 b = q → b = w.heap.size + 1 ∨ False := fun b hb e => by
    by_cases h1 : b < w.heap.size
    · exact absurd ((hag b h1).symm.trans e) (hq0 b)
    · by_cases h2 : b = w.heap.size
      · rw [h2, hce] at e; omega
      · by_cases h3 : b = w.heap.size + 1
        · exact .inl h3
        · by_cases h4 : b = w3.heap.size + 1
          · rw [h4, hcn] at e; omega
          · exact absurd ((hc0 b (by omega) h4).symm.trans e) (fun e => hq1 e.symm)
  have hne : ∀ b, b ≠ w.heap.size + 1 → b < w4.heap.size → ¬ c1 b = q := fun b h hb e => (hX b hb e).elim h id
  have hs5 := f5.size
  have hbe5 := f5.blk hbe (hne _ (by omega) (by omega))
  have hsb5 := f5.blk hsb (hne _ (by omega) (by omega))
  have f05 : Fr C0 w w5 := f04.trans f5 (fun b hb e => hne b (by omega) (by omega) e)
  have hag5 : Ag w.heap.size c c5 := Ag.trans hag ag5 (by omega)
  have hce5 : c5 w.heap.size = q + r + rn + 1 := (ag5 _ (by omega)).trans hce
  have hcn5 : c5 (w3.heap.size + 1) = q + r + rn + 1 := (ag5 _ (by omega)).trans hcn
  have hw15 : c5 (w.heap.size + 1) = q := (ag5 _ (by omega)).trans hcw
  obtain ⟨tx, y, nx, kA2, kn, kc2, vA2, vn, vc2, rfl, hend2⟩ := hend.uni
  clear hend
  have hz : ∀ b j, w.heap.size ≤ b → cnt d (.cl b j) t = 0 := fun b j hb => Rep.cl0 hb HR.out
  have hsb5u := ((Fr.refl C0 w5).alloc (.cells #[.slice kA2 kn kc2, .slice vA2 vn vc2] 92)).blk hsb5 (fun h => h)
  have y0_ := blk_cell hsb5u 0 rfl
  have y1_ := blk_cell hsb5u 1 rfl
  have y2_ := blk_cell hsb5u 2 rfl
  have z0_ := blk_free 0 hsb5u
  have z1_ := blk_free 1 hsb5u
  have z2_ := blk_free 2 hsb5u
  have hsbl := (Array.getElem?_eq_some_iff.1 hsb5).1
  have y0w := blk_cell hsb5 0 rfl
  have y1w := blk_cell hsb5 1 rfl
  have y2w := blk_cell hsb5 2 rfl
  have z0w := blk_free 0 hsb5
  have z1w := blk_free 1 hsb5
  have z2w := blk_free 2 hsb5
  have hsbne : ¬ w5.heap.size = w3.heap.size + 1 := by omega
  have hsbne2 : ¬ w3.heap.size + 1 = w5.heap.size := by omega
  have HWN : Hid (wrap64 (ns + 1) = ns + 1) := Lib.hid (by have := HNS.out; exact IntWalk.wrap64_in _ (by omega))
  have HWD : Hid (wrap64 (nd + 1) = nd + 1) := Lib.hid (by have := HND.out; exact IntWalk.wrap64_in _ (by omega))
  have hml : ((putL (k, v) (flat d t)).length : Int) = if getL k (flat d t) = none then ns + 1 else ns := by
    rw [putL_length HSO.out]
    have := HNS.out
    split <;> omega
  have HE5 := Lib.hid hbe5
  have HW5 := Lib.hid wk5
  have HF5 := Lib.hid f05
  have HA5 := Lib.hid hag5
  have HCL5 := Lib.hid cl5
  have HZ := Lib.hid hz
  have HGL := Lib.hid hgl
  have HML := Lib.hid hml
  have HSB := Lib.hid hsb5
  have HAG5 := Lib.hid ag5
  have HC5 := Lib.hid (And.intro hce5 (And.intro hcn5 hw15))
  rcases hend2 with ⟨rfl, ta, h1, h2, h3, h4⟩ | ⟨tx2, y2, ta, tb, x2, rfl, h1, h2, h3, h4, h5, h6, h7, h8, h9⟩
  · have HB := Lib.hid (fun (w6 : World) (g6 : Fr (fun b => b = w3.heap.size + 1) w5 w6) (sz : Int) (hsz : sz = if getL k (flat d t) = none then ns + 1 else ns) =>
      tput_becomes (o := some (d, t)) (o' := some (d, ta)) (x := (k, v)) (nr := .iface tx0 y0) (sz := sz) (dp := nd) (gone2 := gone2) (q := q) (q3 := q + r + rn + 1) (eb := w.heap.size) (wp := w.heap.size + 1) (c6 := c5) hr0 hrr (by omega) (by omega) (by omega) hq2 HH.out HT.out HG.out HGO.out HA5.out (HCL5.out.mono g6.size) (HF5.out.trans g6 (fun b hb e => by omega)) ⟨Rep.fr g6 (fun b e h => by rw [e, HC5.out.2.1] at h; omega) (fun b e h => by rw [e, HC5.out.2.1] at h; omega) h1, h2⟩ h3 (racc_one h4 (by omega) HZ.out (by simpa using HGL.out)) (by have := h4.dirty; simp only [List.map_cons, List.map_nil, sumN] at this; show dirtyN d ta ≤ _; omega) hl (by rw [hsz]; show _ = ((flat d ta).length : Int); rw [h3, HML.out]) HND.out (Nat.le_refl _) (g6.blk HE5.out (by omega)) HC5.out.1 (HW5.out.fr g6 (fun b e h => by rw [e, HC5.out.2.1] at h; omega)) (by have := HGL.out; simp at this; omega))
    clear hsb5u h1 h2 h3 h4 hbe5 wk5 f05 hag5 cl5 hz hgl hml hsb5 ag5 hne hX f5 f04 f14 f34 hbe hbw hsb hce5 hcn5 hw15 hce hcw hcn hc0 hag hcl k2 k3
    cases hm : decide (getL k (flat d t) = none) with
    | true =>
      have hsz := Lib.hid (show ns + 1 = if getL k (flat d t) = none then ns + 1 else ns by rw [if_pos (of_decide_eq_true hm)])
      clear hm
      go_wp2_with fail
      refine (HB.out _ ((((Fr.refl (fun b => b = w3.heap.size + 1) w5).setCell (p := ⟨w3.heap.size + 1, 0, none⟩) (.inr rfl) _).setCell (p := ⟨w3.heap.size + 1, 1, none⟩) (.inr rfl) _).alloc _) _ (by rw [← hsz.out]; exact HWN.out)).mono ?_
      rintro e w7 ⟨i, rfl, e7, z7, FE⟩
      go_wp2_with fail
      refine leaves_cons (f := 41) (args := #[.pointer (some ⟨w.heap.size, 0, none⟩)]) (by simp) (by simp [go_sem]) ?_
      refine (caught_idle _ _).mono ?_
      rintro e u' wq ⟨rfl, rfl, rfl⟩
      simp [Leaves, settle, results, Tryz.results10, go_sem, e7]
      exact FE.out _
    | false =>
      have hsz := Lib.hid (show ns = if getL k (flat d t) = none then ns + 1 else ns by rw [if_neg (of_decide_eq_false hm)])
      clear hm
      go_wp2_with fail
      refine (HB.out _ (((Fr.refl (fun b => b = w3.heap.size + 1) w5).setCell (p := ⟨w3.heap.size + 1, 0, none⟩) (.inr rfl) _).alloc _) _ hsz.out).mono ?_
      rintro e w7 ⟨i, rfl, e7, z7, FE⟩
      go_wp2_with fail
      refine leaves_cons (f := 41) (args := #[.pointer (some ⟨w.heap.size, 0, none⟩)]) (by simp) (by simp [go_sem]) ?_
      refine (caught_idle _ _).mono ?_
      rintro e u' wq ⟨rfl, rfl, rfl⟩
      simp [Leaves, settle, results, Tryz.results10, go_sem, e7]
      exact FE.out _
  · have hd0 : ¬ d = 0 := by rintro rfl; exact h3.elim
    have HB := Lib.hid (fun (w6 : World) (g6 : Fr (fun b => b = w3.heap.size + 1) w5 w6) (hr6 : w6.heap[w5.heap.size + 1]? = some (.cells #[.slice kA2 kn kc2, .slice vA2 vn vc2] 92 (0, 0))) (hk6 : w6.heap[w5.heap.size + 2]? = some (.cells #[.iface tx y, .iface tx2 y2] 20 (0, 0))) (hn6 : w6.heap[w5.heap.size + 3]? = some (.cells #[.int .i64 0, .slice (some ⟨w5.heap.size + 1, 0, none⟩) 1 1, .slice (some ⟨w5.heap.size + 2, 0, none⟩) 2 2] 103 (0, 0))) (sz : Int) (hsz : sz = if getL k (flat d t) = none then ns + 1 else ns) (dp : Int) (hdp : dp = nd + 1) => by
      have hl6 := (Array.getElem?_eq_some_iff.1 hn6).1
      have hx6 : ∀ b, b < w5.heap.size → ownN c5 [w5.heap.size + 2, w5.heap.size + 3] rn b = c5 b := fun b hb => ownN_out (by simp; omega)
      have hx0 : ∀ b, c5 b = 0 → b < w5.heap.size → ownN c5 [w5.heap.size + 2, w5.heap.size + 3] rn b = 0 := fun b h hb => (hx6 b hb).trans h
      have hag6 : Ag w5.heap.size c5 (ownN c5 [w5.heap.size + 2, w5.heap.size + 3] rn) := hx6
      have hcr : c5 (w5.heap.size + 1) = 0 := HCL5.out _ (by omega)
      have hsbc : ∀ b, b = w3.heap.size + 1 → ownN c5 [w5.heap.size + 2, w5.heap.size + 3] rn b = q + r + rn + 1 := fun b e => by rw [e, hx6 _ (by omega)]; exact HC5.out.2.1
      have hk7 := (((h5.mono (F' := fun b => c5 b = 0 ∧ b < w5.heap.size) (fun b h hl => ⟨h, hl⟩)).fr g6 (fun b h e => by rw [e, HC5.out.2.1] at h; omega)).mono (F' := Dt (ownN c5 [w5.heap.size + 2, w5.heap.size + 3] rn)) (fun b h _ => hx0 b h.1 h.2))
      have hv7 := (((h6.mono (F' := fun b => c5 b = 0 ∧ b < w5.heap.size) (fun b h hl => ⟨h, hl⟩)).fr g6 (fun b h e => by rw [e, HC5.out.2.1] at h; omega)).mono (F' := Dt (ownN c5 [w5.heap.size + 2, w5.heap.size + 3] rn)) (fun b h _ => hx0 b h.1 h.2))
      have hit : ItemsAt (Dt (ownN c5 [w5.heap.size + 2, w5.heap.size + 3] rn)) w6 (.slice (some ⟨w5.heap.size + 1, 0, none⟩) 1 1) [x2] := ItemsAt.ofCells (xs := [.slice kA2 kn kc2, .slice vA2 vn vc2]) (Row.ofBlock hr6 (show ownN c5 _ rn _ = 0 by rw [ownN_out (by simp)]; exact hcr) (by unfold maxLen; simp) rfl) (.cons hk7 hv7 .nil)
      have hra := Rep.fr g6 (fun b e h => by rw [hsbc b e] at h; omega) (fun b e h => by rw [hsbc b e] at h; omega) (Rep.ag hag6 h1)
      have hrb := Rep.fr g6 (fun b e h => by rw [hsbc b e] at h; omega) (fun b e h => by rw [hsbc b e] at h; omega) (Rep.ag hag6 h2)
      have hroot : Rep (ownN c5 [w5.heap.size + 2, w5.heap.size + 3] rn) rn w6 (pgs D) D.blocks False (d + 1) (.node (.mem (w5.heap.size + 3) (w5.heap.size + 2) 0) [x2] [ta, tb]) (wInner (w5.heap.size + 3)) := rep_inner (kvs := [.iface tx y, .iface tx2 y2]) hn6 hit (ownN_in (by simp)) (ownN_in (by simp)) (by simp) (by simp) (by unfold maxLen; omega) (fun i u hi => by
        match i, hi with
        | 0, hi => injection hi with hi; subst hi; exact blk_cell hk6 0 rfl
        | 1, hi => injection hi with hi; subst hi; exact blk_cell hk6 1 rfl
        | n + 2, hi => simp at hi) (.cons hra (.cons hrb .nil)) ⟨_, _, hk6⟩
      have hfl : flat (d + 1) (.node (.mem (w5.heap.size + 3) (w5.heap.size + 2) 0) [x2] [ta, tb]) = putL (k, v) (flat d t) := by rw [flat_two hd0]; exact h8
      exact tput_becomes (o := some (d, t)) (o' := some (d + 1, .node (.mem (w5.heap.size + 3) (w5.heap.size + 2) 0) [x2] [ta, tb])) (x := (k, v)) (nr := .iface tx0 y0) (rv := wInner (w5.heap.size + 3)) (sz := sz) (dp := dp) (gone2 := gone2) (q := q) (q3 := q + r + rn + 1) (eb := w.heap.size) (wp := w.heap.size + 1) (c6 := ownN c5 [w5.heap.size + 2, w5.heap.size + 3] rn) hr0 hrr (by omega) (by omega) (by omega) hq2 HH.out HT.out HG.out HGO.out (Ag.trans HA5.out hag6 (by omega)) (ownN_cl (HCL5.out.mono g6.size) (fun b hb => by simp at hb; omega)) (HF5.out.trans g6 (fun b hb e => by omega)) ⟨hroot, shape_two h7 h3 h4⟩ hfl (racc_two h9 (show w.heap.size ≤ w4.heap.size by omega) hs5 (by omega) (by omega) (by omega) HZ.out (fun b j hb => ⟨Rep.cl0 hb h1, Rep.cl0 hb h2⟩) (by simpa using HGL.out)) (by have := h9.dirty; simp only [List.map_cons, List.map_nil, sumN] at this; show dirtyN (d + 1) _ ≤ _; simp only [dirtyN, List.map_cons, List.map_nil, sumN]; omega) hl (by rw [hsz]; show _ = ((flat (d + 1) _).length : Int); rw [hfl, HML.out]) (by rw [hdp, HND.out]; show _ = ((d + 1 : Nat) : Int); omega) (Nat.le_refl _) (g6.blk HE5.out (by omega)) (by rw [hx6 _ (by omega)]; exact HC5.out.1) ((HW5.out.ag hag6).fr g6 (fun b e h => by rw [hsbc b e] at h; omega)) (by have := HGL.out; simp at this; omega))
    clear hsb5u h1 h2 h3 h4 h5 h6 h7 h8 h9 hbe5 wk5 f05 hag5 cl5 hz hgl hml hsb5 ag5 hne hX f5 f04 f14 f34 hbe hbw hsb hce5 hcn5 hw15 hce hcw hcn hc0 hag hcl k2 k3
    have gW := ((((Fr.refl C0 (w5.setCell ⟨w3.heap.size + 1, 0, none⟩ (.iface tx y))).alloc (.cells #[.slice kA2 kn kc2, .slice vA2 vn vc2] 92)).alloc (.cells #[.slice kA2 kn kc2, .slice vA2 vn vc2] 92)).alloc (.cells #[.iface tx y, .iface tx2 y2] 20)).alloc (.cells #[.int .i64 0, .slice (some ⟨w5.heap.size + 1, 0, none⟩) 1 1, .slice (some ⟨w5.heap.size + 1 + 1, 0, none⟩) 2 2] 103)
    have hW := gW.blk (blk_set (i := 0) HSB.out (.iface tx y)) (fun h => h)
    have a0 := blk_cell hW 0 rfl
    have a1 := blk_cell hW 1 rfl
    have a2 := blk_cell hW 2 rfl
    have b0 := blk_free 0 hW
    have b1 := blk_free 1 hW
    have b2 := blk_free 2 hW
    have GW := Lib.hid (((Fr.refl (fun b => b = w3.heap.size + 1) w5).setCell (p := ⟨w3.heap.size + 1, 0, none⟩) (.inr rfl) (.iface tx y)).trans0 gW)
    have hr6 := (((Fr.refl C0 _).alloc (.cells #[.iface tx y, .iface tx2 y2] 20)).alloc (.cells #[.int .i64 0, .slice (some ⟨w5.heap.size + 1, 0, none⟩) 1 1, .slice (some ⟨w5.heap.size + 1 + 1, 0, none⟩) 2 2] 103)).blk (heap_alloc_new ((w5.setCell ⟨w3.heap.size + 1, 0, none⟩ (.iface tx y)).alloc (.cells #[.slice kA2 kn kc2, .slice vA2 vn vc2] 92)) (.cells #[.slice kA2 kn kc2, .slice vA2 vn vc2] 92)) (fun h => h)
    have hk6 := ((Fr.refl C0 _).alloc (.cells #[.int .i64 0, .slice (some ⟨w5.heap.size + 1, 0, none⟩) 1 1, .slice (some ⟨w5.heap.size + 1 + 1, 0, none⟩) 2 2] 103)).blk (heap_alloc_new (((w5.setCell ⟨w3.heap.size + 1, 0, none⟩ (.iface tx y)).alloc (.cells #[.slice kA2 kn kc2, .slice vA2 vn vc2] 92)).alloc (.cells #[.slice kA2 kn kc2, .slice vA2 vn vc2] 92)) (.cells #[.iface tx y, .iface tx2 y2] 20)) (fun h => h)
    have hn6 := heap_alloc_new ((((w5.setCell ⟨w3.heap.size + 1, 0, none⟩ (.iface tx y)).alloc (.cells #[.slice kA2 kn kc2, .slice vA2 vn vc2] 92)).alloc (.cells #[.slice kA2 kn kc2, .slice vA2 vn vc2] 92)).alloc (.cells #[.iface tx y, .iface tx2 y2] 20)) (.cells #[.int .i64 0, .slice (some ⟨w5.heap.size + 1, 0, none⟩) 1 1, .slice (some ⟨w5.heap.size + 1 + 1, 0, none⟩) 2 2] 103)
    rw [show ((w5.setCell ⟨w3.heap.size + 1, 0, none⟩ (.iface tx y)).alloc (.cells #[.slice kA2 kn kc2, .slice vA2 vn vc2] 92)).heap.size = w5.heap.size + 1 by simp] at hr6
    rw [show (((w5.setCell ⟨w3.heap.size + 1, 0, none⟩ (.iface tx y)).alloc (.cells #[.slice kA2 kn kc2, .slice vA2 vn vc2] 92)).alloc (.cells #[.slice kA2 kn kc2, .slice vA2 vn vc2] 92)).heap.size = w5.heap.size + 2 by simp] at hk6
    rw [show ((((w5.setCell ⟨w3.heap.size + 1, 0, none⟩ (.iface tx y)).alloc (.cells #[.slice kA2 kn kc2, .slice vA2 vn vc2] 92)).alloc (.cells #[.slice kA2 kn kc2, .slice vA2 vn vc2] 92)).alloc (.cells #[.iface tx y, .iface tx2 y2] 20)).heap.size = w5.heap.size + 3 by simp] at hn6
    have HR6 := Lib.hid hr6
    have HK6 := Lib.hid hk6
    have HN6 := Lib.hid hn6
    clear gW hW hr6 hk6 hn6
    cases hm : decide (getL k (flat d t) = none) with
    | true =>
      have hsz := Lib.hid (show ns + 1 = if getL k (flat d t) = none then ns + 1 else ns by rw [if_pos (of_decide_eq_true hm)])
      clear hm
      go_upto_region 15 with fail
      generalize ((((w5.setCell ⟨w3.heap.size + 1, 0, none⟩ (.iface tx y)).alloc (.cells #[.slice kA2 kn kc2, .slice vA2 vn vc2] 92)).alloc (.cells #[.slice kA2 kn kc2, .slice vA2 vn vc2] 92)).alloc (.cells #[.iface tx y, .iface tx2 y2] 20)).alloc (.cells #[.int .i64 0, .slice (some ⟨w5.heap.size + 1, 0, none⟩) 1 1, .slice (some ⟨w5.heap.size + 1 + 1, 0, none⟩) 2 2] 103) = W at *
      go_wp2_with fail
      have gF := ((((Fr.refl (fun b => b = w3.heap.size + 1) W).setCell (p := ⟨w3.heap.size + 1, 0, none⟩) (.inr rfl) (wInner (w5.heap.size + 3))).setCell (p := ⟨w3.heap.size + 1, 2, none⟩) (.inr rfl) (.int .i64 (wrap64 (nd + 1)))).setCell (p := ⟨w3.heap.size + 1, 1, none⟩) (.inr rfl) (.int .i64 (wrap64 (ns + 1))))
      refine (HB.out _ (GW.out.trans gF (fun _ _ h => h)) (gF.blk HR6.out (by omega)) (gF.blk HK6.out (by omega)) (gF.blk HN6.out (by omega)) _ (by rw [← hsz.out]; exact HWN.out) _ HWD.out).mono ?_
      rintro e w7 ⟨i, rfl, e7, z7, FE⟩
      go_wp2_with fail
      refine leaves_cons (f := 41) (args := #[.pointer (some ⟨w.heap.size, 0, none⟩)]) (by simp) (by simp [go_sem]) ?_
      refine (caught_idle _ _).mono ?_
      rintro e u' wq ⟨rfl, rfl, rfl⟩
      simp [Leaves, settle, results, Tryz.results10, go_sem, e7]
      exact FE.out _
    | false =>
      have hsz := Lib.hid (show ns = if getL k (flat d t) = none then ns + 1 else ns by rw [if_neg (of_decide_eq_false hm)])
      clear hm
      go_upto_region 15 with fail
      generalize ((((w5.setCell ⟨w3.heap.size + 1, 0, none⟩ (.iface tx y)).alloc (.cells #[.slice kA2 kn kc2, .slice vA2 vn vc2] 92)).alloc (.cells #[.slice kA2 kn kc2, .slice vA2 vn vc2] 92)).alloc (.cells #[.iface tx y, .iface tx2 y2] 20)).alloc (.cells #[.int .i64 0, .slice (some ⟨w5.heap.size + 1, 0, none⟩) 1 1, .slice (some ⟨w5.heap.size + 1 + 1, 0, none⟩) 2 2] 103) = W at *
      go_wp2_with fail
      have gF := (((Fr.refl (fun b => b = w3.heap.size + 1) W).setCell (p := ⟨w3.heap.size + 1, 0, none⟩) (.inr rfl) (wInner (w5.heap.size + 3))).setCell (p := ⟨w3.heap.size + 1, 2, none⟩) (.inr rfl) (.int .i64 (wrap64 (nd + 1))))
      refine (HB.out _ (GW.out.trans gF (fun _ _ h => h)) (gF.blk HR6.out (by omega)) (gF.blk HK6.out (by omega)) (gF.blk HN6.out (by omega)) _ hsz.out _ HWD.out).mono ?_
      rintro e w7 ⟨i, rfl, e7, z7, FE⟩
      go_wp2_with fail
      refine leaves_cons (f := 41) (args := #[.pointer (some ⟨w.heap.size, 0, none⟩)]) (by simp) (by simp [go_sem]) ?_
      refine (caught_idle _ _).mono ?_
      rintro e u' wq ⟨rfl, rfl, rfl⟩
      simp [Leaves, settle, results, Tryz.results10, go_sem, e7]
      exact FE.out _
end Go.Proofs.YtcmicdcikechkaaGreat
end
section
namespace Go.Proofs.YtcmicdcikechkaaGreat
open Go.RowKit Go.H
set_option maxHeartbeats 2000000
set_option maxRecDepth 100000
structure TSt where
  S : SSt
  D : DSt
  now : Root
  last : Root
  gone : List Nat
  live : List Nat
  held : List Nat
def rootPage : Root → Prop
  | none => True
  | some (_, t) => t.isPage
structure Books (Z : TSt) : Prop where
  st : Z.S.state = ones Z.held
  hn : Z.held.Nodup
  ln : Z.live.Nodup
  hl : ∀ x, x ∈ Z.held ↔ x ∈ Z.live
  hb : ∀ x ∈ Z.held, 2 ≤ x ∧ x < Z.S.pages + 2
  b1 : ∀ id, rcnt (.pg id) Z.now + Z.gone.count id = if id ∈ Z.live then 1 else 0
  b2 : ∀ id, rcnt (.pg id) Z.last = if id ∈ Z.live then 1 else 0
  bc : ∀ b j, rcnt (.cl b j) Z.now ≤ 1
  lp : rootPage Z.last
  room : rootDirty Z.now ≤ Z.S.pages - Z.S.state.length
  opn : Z.D.opn = []
  ok : DOk Z.D
  sn : Sorted (rootL Z.now)
  sl : Sorted (rootL Z.last)
  num : Z.S.num ≤ 1000000
  bn : (rootL Z.now).length ≤ 90000
  bl : (rootL Z.last).length ≤ 90000
theorem Books.gn {Z : TSt} (h : Books Z) : Z.gone.Nodup ∧ ∀ x ∈ Z.gone, x ∈ Z.live := by
  refine ⟨List.nodup_iff_count.2 fun a => ?_, fun x hx => ?_⟩
  · have := h.b1 a
    split at this <;> omega
  · have h1 := List.count_pos_iff.2 hx
    have := h.b1 x
    split at this
    · assumption
    · omega
theorem Books.hlen {Z : TSt} (h : Books Z) : Z.held.length ≤ Z.S.pages := by
  have := sub_length (b := (List.range Z.S.pages).map (· + 2)) h.hn fun x hx => by
    have := h.hb x hx
    exact List.mem_map.2 ⟨x - 2, List.mem_range.2 (by omega), by show x - 2 + 2 = x; omega⟩
  simpa using this
theorem Books.slen {Z : TSt} (h : Books Z) : Z.S.state.length ≤ Z.S.pages := by rw [h.st, marks_length]; exact h.hlen
theorem Books.glen {Z : TSt} (h : Books Z) : Z.gone.length ≤ Z.S.pages := by
  have := sub_length h.gn.1 fun x hx => (h.hl x).2 (h.gn.2 x hx)
  have := h.hlen
  omega
theorem depth_le : ∀ {d m : Nat} {t : T}, 1 ≤ m → Shape d m t → d ≤ (flat d t).length
  | 0, _, _, _, _ => Nat.zero_le _
  | d + 1, m, .node nm l ks, hm, h => by
    obtain ⟨h1, h2, h3, h4⟩ := h
    by_cases hd : d = 0
    · subst hd
      show 1 ≤ (if 0 = 0 then l else _).length
      rw [if_pos rfl]; omega
    · rw [if_neg hd] at h4
      show d + 1 ≤ (if d = 0 then l else _).length
      rw [if_neg hd]
      cases ks with
      | nil => simp at h4
      | cons k ks =>
        cases l with
        | nil => simp at h1; omega
        | cons x l =>
          cases ks with
          | nil => simp at h4
          | cons k2 ks =>
            have := depth_le (by omega) (h4.2 k (by simp))
            simp [inter, interT]; omega
theorem rootD_le {o : Root} (h : RootSh o) : rootD o ≤ (rootL o).length := by
  cases o with
  | none => exact Nat.zero_le _
  | some p => exact depth_le (Nat.le_refl _) h
theorem RootAt.sh {c : Nat → Nat} {rn : Nat} {w : World} {pg : Nat → Option Bs} {N : Nat} {X : Prop} {o : Root} {v : Value} (h : RootAt c rn w pg N X o v) : RootSh o := by
  cases o with
  | none => trivial
  | some p => exact h.2
theorem RootAt.pageW {c c' : Nat → Nat} {rn rn' : Nat} {w w' : World} {pg : Nat → Option Bs} {N : Nat} {X : Prop} {o : Root} {v : Value} (hp : rootPage o) (h : RootAt c rn w pg N X o v) : RootAt c' rn' w' pg N X o v := by
  cases o with
  | none => exact h
  | some p => exact ⟨Rep.pageW hp h.1, h.2⟩
theorem RootAt.pg {c : Nat → Nat} {rn : Nat} {w : World} {pg pg' : Nat → Option Bs} {N : Nat} {X : Prop} {o : Root} {v : Value} (hp : ∀ id, 0 < rcnt (.pg id) o → pg' id = pg id) (h : RootAt c rn w pg N X o v) : RootAt c rn w pg' N X o v := by
  cases o with
  | none => exact h
  | some p => exact ⟨Rep.pg hp h.1, h.2⟩
structure TreeIn (c : Nat → Nat) (r rn rm : Nat) (w : World) (tp st lm km : Nat) (nr lr gv ov : Value) (Z : TSt) (k : Nat) (sn : List Value) : Prop where
  hd : Hd c r w tp st Z.S Z.D
  cl : Cl w c
  blk : w.heap[tp]? = some (.cells (TreeCells st nr ((rootL Z.now).length : Int) (rootD Z.now : Int) lr ((rootL Z.last).length : Int) (rootD Z.last : Int) lm gv ov km) 77 (0, 0))
  gr : w.ownsRow 0 3 1 gv Z.gone.length (Z.gone.map natV)
  go : ∀ b, gv.ownBlock = some b → c b = r
  orow : w.ownsRow 0 57 1 ov k sn
  oo : ∀ b, ov.ownBlock = some b → c b = rm
  live : MapIs w lm (vmap (ones Z.live))
  lmo : c lm = rm
  kept : MapIs w km []
  kmo : c km = rm
  lk : lm ≠ km
  now : RootAt c rn w (pgs Z.D) Z.D.blocks False Z.now nr
  last : RootAt c rn w (pgs Z.D) Z.D.blocks False Z.last lr
  bk : Books Z
structure Owners (r rn rm : Nat) : Prop where
  r0 : r ≠ 0
  n0 : rn ≠ 0
  m0 : rm ≠ 0
  nr : rn ≠ r
  mr : rm ≠ r
  nm : rn ≠ rm
def TreeAt (c : Nat → Nat) (r rn rm : Nat) (w : World) (tp : Nat) (Z : TSt) (k : Nat) : Prop := ∃ st lm km nr lr gv ov sn, TreeIn c r rn rm w tp st lm km nr lr gv ov Z k sn
theorem TreeIn.fr {C : Nat → Prop} {c : Nat → Nat} {r rn rm : Nat} {w w' : World} {tp st lm km : Nat} {nr lr gv ov : Value} {Z : TSt} {k : Nat} {sn : List Value} (h : TreeIn c r rn rm w tp st lm km nr lr gv ov Z k sn) (hf : Fr C w w') (h0 : ∀ b, C b → c b ≠ 0) (h1 : ∀ b, C b → c b ≠ r) (h2 : ∀ b, C b → c b ≠ rn) (h3 : ∀ b, C b → c b ≠ rm) : TreeIn c r rn rm w' tp st lm km nr lr gv ov Z k sn :=
  ⟨h.hd.fr hf h1 h0, h.cl.mono hf.size, hf.blk h.blk (fun e => h1 _ e h.hd.own), own_kept h.gr hf (fun b hb e => h1 b e (h.go b hb)), h.go, own_kept h.orow hf (fun b hb e => h3 b e (h.oo b hb)), h.oo, h.live.fr hf (fun e => h3 _ e h.lmo), h.lmo, h.kept.fr hf (fun e => h3 _ e h.kmo), h.kmo, h.lk, h.now.fr hf h2 h0, h.last.fr hf h2 h0, h.bk⟩
theorem TreeIn.ag {c c' : Nat → Nat} {r rn rm : Nat} {w : World} {tp st lm km : Nat} {nr lr gv ov : Value} {Z : TSt} {k : Nat} {sn : List Value} (h : TreeIn c r rn rm w tp st lm km nr lr gv ov Z k sn) (ha : Ag w.heap.size c c') (hc : Cl w c') : TreeIn c' r rn rm w tp st lm km nr lr gv ov Z k sn :=
  ⟨h.hd.ag ha, hc, h.blk, h.gr, fun b hb => (ha b (h.gr.lt b hb).2).trans (h.go b hb), h.orow, fun b hb => (ha b (h.orow.lt b hb).2).trans (h.oo b hb), h.live, (ha _ h.live.lt).trans h.lmo, h.kept, (ha _ h.kept.lt).trans h.kmo, h.lk, h.now.ag ha, h.last.ag ha, h.bk⟩
theorem TreeAt.fr {C : Nat → Prop} {c : Nat → Nat} {r rn rm : Nat} {w w' : World} {tp : Nat} {Z : TSt} {k : Nat} (h : TreeAt c r rn rm w tp Z k) (hf : Fr C w w') (h0 : ∀ b, C b → c b ≠ 0) (h1 : ∀ b, C b → c b ≠ r) (h2 : ∀ b, C b → c b ≠ rn) (h3 : ∀ b, C b → c b ≠ rm) : TreeAt c r rn rm w' tp Z k := by
  obtain ⟨st, lm, km, nr, lr, gv, ov, sn, h⟩ := h
  exact ⟨st, lm, km, nr, lr, gv, ov, sn, h.fr hf h0 h1 h2 h3⟩
theorem TreeAt.fr0 {c : Nat → Nat} {r rn rm : Nat} {w w' : World} {tp : Nat} {Z : TSt} {k : Nat} (h : TreeAt c r rn rm w tp Z k) (hf : Fr C0 w w') : TreeAt c r rn rm w' tp Z k := h.fr hf (fun _ e => e.elim) (fun _ e => e.elim) (fun _ e => e.elim) (fun _ e => e.elim)
theorem TreeAt.ag {c c' : Nat → Nat} {r rn rm : Nat} {w : World} {tp : Nat} {Z : TSt} {k : Nat} (h : TreeAt c r rn rm w tp Z k) (ha : Ag w.heap.size c c') (hc : Cl w c') : TreeAt c' r rn rm w tp Z k := by
  obtain ⟨st, lm, km, nr, lr, gv, ov, sn, h⟩ := h
  exact ⟨st, lm, km, nr, lr, gv, ov, sn, h.ag ha hc⟩
theorem TreeAt.bk {c : Nat → Nat} {r rn rm : Nat} {w : World} {tp : Nat} {Z : TSt} {k : Nat} (h : TreeAt c r rn rm w tp Z k) : Books Z := by
  obtain ⟨st, lm, km, nr, lr, gv, ov, sn, h⟩ := h
  exact h.bk
theorem TreeAt.lt {c : Nat → Nat} {r rn rm : Nat} {w : World} {tp : Nat} {Z : TSt} {k : Nat} (h : TreeAt c r rn rm w tp Z k) : tp < w.heap.size := by
  obtain ⟨st, lm, km, nr, lr, gv, ov, sn, h⟩ := h
  exact (Array.getElem?_eq_some_iff.1 h.blk).1
theorem dirty_bound {o : Root} (h : RootSh o) (hb : (rootL o).length ≤ 90000) : rootDirty o ≤ 90000 := Nat.le_trans (rootDirty_count h) hb
theorem put_at {c : Nat → Nat} {r rn rm : Nat} {w : World} {tp : Nat} {Z : TSt} {k : Nat} {kv vv : Value} {x : KV} (ho : Owners r rn rm) (h : TreeAt c r rn rm w tp Z k) (hk : BytesAt (Dt c) w kv x.1) (hv : BytesAt (Dt c) w vv x.2) (hw : wrong x.1 x.2 = 0) (hb : (rootL Z.now).length < 90000) :
    Calls Tryz.prog 10 #[.pointer (some ⟨tp, 0, none⟩), kv, vv] w fun e w' =>
      (e = .returned (.int .i64 21) ∧ Fr C0 w w' ∧ ∃ o', rootL o' = putL x (rootL Z.now) ∧ RootSh o' ∧ rootDirty o' ≤ rootDirty Z.now + 2 * rootD Z.now + 1 ∧ Z.S.pages - Z.S.state.length < rootDirty o') ∨
      (e = .returned (.int .i64 0) ∧ Fr (fun b => c b = r) w w' ∧ ∃ c' o' gone', Ag w.heap.size c c' ∧ TreeAt c' r rn rm w' tp { Z with now := o', gone := gone' } k ∧ rootL o' = putL x (rootL Z.now)) := by
  obtain ⟨st, lm, km, nr, lr, gv, ov, sn, h⟩ := h
  have hsh := h.now.sh
  have hdb := dirty_bound hsh (by omega)
  have hD := rootD_le hsh
  have hg := h.bk.glen
  have hsm := h.hd.alive.small
  have H : Calls Tryz.prog 10 #[.pointer (some ⟨tp, 0, none⟩), kv, vv] w (TPutRes c r rn w tp st lm km Z.S Z.D Z.now lr ov ((rootL Z.last).length : Int) (rootD Z.last : Int) Z.gone x) := by
    have hnow := h.now
    have hblk := h.blk
    cases hz : Z.now with
    | none =>
      rw [hz] at hnow hblk
      obtain rfl := hnow
      exact tput_new ho.r0 ho.n0 ho.nr h.hd h.cl hblk h.gr h.go hk hv hw h.bk.slen (by omega)
    | some p =>
      obtain ⟨d, t⟩ := p
      rw [hz] at hnow hblk hdb hD
      have hsn := h.bk.sn
      rw [hz] at hsn hb
      exact tput_old ho.r0 ho.n0 ho.nr h.hd h.cl hblk h.gr h.go hnow.1 hnow.2 hsn rfl rfl (by show d ≤ _; have : d ≤ (rootL (some (d, t))).length := hD; omega) (by show (rootL (some (d, t))).length ≤ _; omega) (by show rootDirty (some (d, t)) ≤ _; omega) hk hv hw h.bk.slen (by omega)
  refine H.mono ?_
  rintro e w' ⟨o', gone', h1, h2, h3, ⟨rfl, h4, h5⟩ | ⟨rfl, h4, h5, gv', rv', c', ag', cl', hd', ht', og', oc', hr'⟩⟩
  · exact .inl ⟨rfl, h5, o', h1, h2, h3.dirty, h4⟩
  · have hsl : Sorted (rootL o') := by rw [h1]; exact putL_sorted h.bk.sn
    have hpl : (rootL o').length ≤ (rootL Z.now).length + 1 := by rw [h1, putL_length h.bk.sn]; split <;> omega
    refine .inr ⟨rfl, h5, c', o', gone', ag', ⟨st, lm, km, rv', lr, gv', ov, sn, hd', cl', ht', og', oc', own_kept h.orow h5 (fun b hb e => ho.mr ((h.oo b hb).symm.trans e)), fun b hb => (ag' b (h.orow.lt b hb).2).trans (h.oo b hb), h.live.fr h5 (fun e => ho.mr (h.lmo.symm.trans e)), (ag' _ h.live.lt).trans h.lmo, h.kept.fr h5 (fun e => ho.mr (h.kmo.symm.trans e)), (ag' _ h.kept.lt).trans h.kmo, h.lk, hr', RootAt.pageW h.bk.lp h.last, ?_⟩, h1⟩
    refine ⟨h.bk.st, h.bk.hn, h.bk.ln, h.bk.hl, h.bk.hb, fun id => ?_, h.bk.b2, fun b j => ?_, h.bk.lp, h4, h.bk.opn, h.bk.ok, hsl, h.bk.sl, h.bk.num, by show (rootL o').length ≤ _; omega, h.bk.bl⟩
    · show rcnt (.pg id) o' + gone'.count id = _
      rw [h3.pg id]; exact h.bk.b1 id
    · have h6 := h3.cl b j
      have h7 := h.bk.bc b j
      show rcnt (.cl b j) o' ≤ 1
      split at h6 <;> omega
end Go.Proofs.YtcmicdcikechkaaGreat
end
