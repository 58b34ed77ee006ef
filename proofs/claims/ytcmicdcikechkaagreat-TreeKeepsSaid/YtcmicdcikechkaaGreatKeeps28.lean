import Derived.Test.YtcmicdcikechkaaGreatKeeps27
import Derived.Test.YtcmicdcikechkaaGreatKeeps26
import Derived.Test.YtcmicdcikechkaaGreatKeeps17
set_option linter.all false
namespace Go.Proofs.YtcmicdcikechkaaGreat
open Go.RowKit Go.H
set_option maxHeartbeats 2000000
set_option maxRecDepth 100000
section
structure RelIn (c : Nat → Nat) (r rm : Nat) (w : World) (tp st lm km : Nat) (ov : Value) (ns : List Nat) (S : SSt) (D : DSt) (held back live : List Nat) : Prop where
 hd : Hd c r w tp st S D
 cl : Cl w c
 ap : Apart c r w ns
 tpn : tp ∈ ns
 t7 : w.cell? ⟨tp, 7, none⟩ = some (.map (some lm))
 t9 : w.cell? ⟨tp, 9, none⟩ = some ov
 t10 : w.cell? ⟨tp, 10, none⟩ = some (.map (some km))
 mp : MapIs w lm (vmap (ones live))
 ml : c lm = rm
 kp : MapIs w km []
 mo : c km = rm
 lk : lm ≠ km
 st : S.state = marks held back
 nd : held.Nodup
theorem RelIn.turn {c : Nat → Nat} {r rm : Nat} {w w' : World} {tp st lm km : Nat} {ov : Value} {ns : List Nat} {S S' : SSt} {D : DSt} {held back back' live live' : List Nat} (hmr : rm ≠ r) (hm0 : rm ≠ 0) (h : RelIn c r rm w tp st lm km ov ns S D held back live) (hf : Fr (fun b => (c b = r ∧ b ∉ ns) ∨ b = lm ∨ b = km) w w') (hs : StoreOk c r w' st S' D) (ha : Alive S' D) (hm : MapIs w' lm (vmap (ones live'))) (hk : MapIs w' km []) (hst : S'.state = marks held back') : RelIn c r rm w' tp st lm km ov ns S' D held back' live' := by
 have hns : ∀ b ∈ ns, ¬ ((c b = r ∧ b ∉ ns) ∨ b = lm ∨ b = km) := fun b hb e => e.elim (fun e => e.2 hb) (fun e => e.elim (fun e => hmr (by rw [← h.ml, ← e]; exact (h.ap b hb).1)) (fun e => hmr (by rw [← h.mo, ← e]; exact (h.ap b hb).1)))
 exact ⟨⟨hf.cell h.hd.cell (hns tp h.tpn), hs, ha, h.hd.own⟩, h.cl.mono hf.size, h.ap.fr hf hns, h.tpn, hf.cell h.t7 (hns tp h.tpn), hf.cell h.t9 (hns tp h.tpn), hf.cell h.t10 (hns tp h.tpn), hm, h.ml, hk, h.mo, h.lk, hst, h.nd⟩
theorem zcn {c : Nat → Nat} {r rm : Nat} {w : World} {tp st lm km id : Nat} {A : Option Addr} {cp : Nat} {ns : List Nat} {S : SSt} {D : DSt} {held back live : List Nat} (hr0 : r ≠ 0) (hm0 : rm ≠ 0) (hmr : rm ≠ r) (h : RelIn c r rm w tp st lm km (.slice A 0 cp) ns S D held back live) (hid : id ∈ held) (hib : id ∉ back) :
 Calls Tryz.prog 48 #[.pointer (some ⟨tp, 0, none⟩), .int .i64 (id : Int)] w fun e w' => e = .returned (.tuple #[]) ∧ RelIn c r rm w' tp st lm km (.slice A 0 cp) ns (S.set id 2) D held (id :: back) live ∧ Fr (fun b => (c b = r ∧ b ∉ ns) ∨ b = lm ∨ b = km) w w' := by
 have t9 := h.t9
 have t0 := h.hd.cell
 have t10 := h.t10
 have HF := zhd (fun (w_ : World) (hf : Fr C0 w w_) => z8t (k := id) (h.hd.fr0 hf).store h.hd.alive hr0 (h.ap.fr hf (fun _ _ h => h)) (by rw [z94 h.st, if_pos hid, if_neg hib]))
 have HH := zhd h
 clear h
 go_enter Tryz.func48, Tryz.ntmps48
 go_wp2
 go_loopw [5, 11] (fun _ i wr => i = .int .i64 0 ∧ w = wr) (fun _ _ _ => 0)
 case atStart => exact ⟨rfl, rfl⟩
 case round =>
  obtain ⟨rfl, rfl⟩ := hrel
  go_wp2_with fail
  refine (HF.out _ (Fr.refl C0 _)).mono ?_
  rintro e w2 ⟨rfl, s2, f2⟩
  have F2 := zhd f2
  have S2 := zhd s2
  have K2 := zhd (HH.out.kp.fr f2 (fun e => hmr (HH.out.mo.symm.trans e.1)))
  have M2 := zhd (HH.out.mp.fr f2 (fun e => hmr (HH.out.ml.symm.trans e.1)))
  have t10' := f2.cell t10 (fun e => e.2 HH.out.tpn)
  clear f2 s2 HF
  go_wp2_with (refine z1z rfl Tryz.underlying74 Tryz.underlying3 _ _ rfl (m := km) (k := (id : Int)) rfl rfl K2.out ?_; intro w4 n4 f4)
  go_end0
  have f24 := (F2.out.mono (C2 := fun b => (c b = r ∧ b ∉ ns) ∨ b = lm ∨ b = km) (fun _ _ h => .inl h)).trans f4 (fun b hb e => .inr (.inr e))
  have ha := HH.out.hd.alive
  refine ⟨rfl, HH.out.turn hmr hm0 f24 (S2.out.fr f4 (fun b e h => hmr (by rw [← h, e]; exact HH.out.mo.symm)) (fun b e h => hm0 (by rw [← h, e]; exact HH.out.mo.symm))) ⟨ha.down, ha.life, ha.size, ha.small⟩ (M2.out.fr f4 HH.out.lk) n4 ?_, f24⟩
  show aset (id : Int) 2 S.state = _
  rw [HH.out.st, z8x HH.out.nd hid]
end
section
def ownL (v : Value) : List Nat := match v.ownBlock with | some b => [b] | none => []
theorem zco {v : Value} {b : Nat} : b ∈ ownL v ↔ v.ownBlock = some b := by
 unfold ownL
 cases v.ownBlock with
 | none => simp
 | some a => simp; exact eq_comm
theorem zcp {c : Nat → Nat} {r : Nat} {w : World} {tp n : Nat} {gv : Value} {cs : Array Value} {xs : List Value} (hct : c tp = r) (ht : w.heap[tp]? = some (.cells cs 77 (0, 0))) (hg : w.ownsRow 0 3 1 gv n xs) (hgo : ∀ b, gv.ownBlock = some b → c b = r) : Apart c r w (tp :: ownL gv) := by
 intro b hb
 rcases List.mem_cons.1 hb with rfl | hb
 · exact ⟨hct, _, _, _, ht, by decide, by decide, by decide⟩
 · have := zco.1 hb
   obtain ⟨cur, h⟩ := z4s hg this
   exact ⟨hgo b this, _, _, _, h, by decide, by decide, by decide⟩
theorem zcq {c c1 c5 : Nat → Nat} {r rn q3 eb : Nat} {w w4 w5 : World} {tp st lm km : Nat} {S : SSt} {D : DSt} {o o' : Root} {lr gv gv' ov rv : Value} {ls ld : Int} {gone gone' : List Nat} {x : KV} {cs : Array Value} {n : Nat} {xs : List Value} (hr0 : r ≠ 0) (hrr : rn ≠ r) (hq0 : q3 ≠ 0) (hqr : q3 ≠ r) (hqn : q3 ≠ rn) (hh : Hd c r w tp st S D) (ht : w.heap[tp]? = some (.cells cs 77 (0, 0))) (hg : w.ownsRow 0 3 1 gv n xs) (hgo : ∀ b, gv.ownBlock = some b → c b = r) (hag : Ag w.heap.size c c1) (f4 : Fr C0 w w4) (hr : RootAt c1 rn w4 (pgs D) D.blocks False o' rv)
 (h1 : rootL o' = putL x (rootL o)) (h2 : RootSh o') (h3 : RAcc w.heap.size o o' gone gone') (h4 : rootDirty o' ≤ S.pages - S.state.length) (f5 : Fr (fun b => b = tp ∨ gv.ownBlock = some b) w4 w5) (ag5 : Ag w4.heap.size c1 c5) (cl5 : Cl w5 c5)
 (ht5 : w5.heap[tp]? = some (.cells (TreeCells st rv ((rootL o').length : Int) (rootD o' : Int) lr ls ld lm gv' ov km) 77 (0, 0))) (og5 : w5.ownsRow 0 3 1 gv' gone'.length (gone'.map natV)) (oc5 : ∀ b, gv'.ownBlock = some b → c5 b = r) (he1 : w.heap.size ≤ eb) (he2 : eb < w4.heap.size) (hce : c1 eb = q3) (u : Value) :
 TPutRes c r rn w tp st lm km S D o lr ov ls ld gone x (.returned (.int .i64 0)) (w5.setCell ⟨eb, 0, none⟩ u) := by
 have fs := (Fr.refl (fun b => b = eb) w5).setCell (p := ⟨eb, 0, none⟩) (.inr rfl) u
 have hce5 : c5 eb = q3 := (ag5 eb he2).trans hce
 have hs4 := f4.size
 have hs5 := f5.size
 have htl := (Array.getElem?_eq_some_iff.1 ht).1
 have hct := hh.own
 have hag5 : Ag w.heap.size c c5 := Ag.trans hag ag5 hs4
 have hc1 : ∀ b, (b = tp ∨ gv.ownBlock = some b) → c5 b = r ∧ c b = r ∧ b < w.heap.size := fun b hb => by
  rcases hb with rfl | hb
  · exact ⟨(hag5 _ htl).trans hct, hct, htl⟩
  · have := (hg.lt b hb).2; exact ⟨(hag5 b this).trans (hgo b hb), hgo b hb, this⟩
 have r5 := ((hr.ag ag5).fr f5 (fun b hb e => hrr (e.symm.trans (hc1 b hb).1)) (fun b hb e => hr0 ((hc1 b hb).1.symm.trans e))).fr fs (fun b hb e => hqn (by rw [← hce5, ← hb]; exact e)) (fun b hb e => hq0 (by rw [← hce5, ← hb]; exact e))
 have hap : Apart c5 r w4 (tp :: ownL gv) := zcp (hc1 tp (.inl rfl)).1 (f4.blk ht (fun h => h)) (z0m hg f4 (fun _ _ h => h)) (fun b hb => (hc1 b (.inr hb)).1)
 have s5 := ((((hh.store.ag hag).fr f4 (fun _ h => h.elim) (fun _ h => h.elim)).ag ag5).apart hr0 hap (f5.mono fun b _ h => by rcases h with rfl | h; exact List.mem_cons_self; exact List.mem_cons_of_mem _ (zco.2 h))).fr fs (fun b hb e => hqr (by rw [← hce5, ← hb]; exact e)) (fun b hb e => hq0 (by rw [← hce5, ← hb]; exact e))
 have ht6 := fs.blk ht5 (fun e : tp = eb => by omega)
 exact ⟨o', gone', h1, h2, h3, .inr ⟨rfl, h4, ((f4.mono (fun _ _ h => h.elim)).trans f5 (fun b hb h => (hc1 b h).2.1)).setCell (.inl he1) u, gv', rv, c5, hag5, cl5.mono fs.size, ⟨z2e ht6 0 rfl, s5, hh.alive, (hc1 tp (.inl rfl)).1⟩, ht6, z0m og5 fs (fun b hb e => hqr (by rw [← hce5, ← e]; exact oc5 b hb)), oc5, r5⟩⟩
theorem zcr {c : Nat → Nat} {r rn : Nat} {w : World} {tp st lm km : Nat} {S : SSt} {D : DSt} {lr gv ov kv vv : Value} {ns nd ls ld : Int} {k v : Bs} {gone : List Nat} (hr0 : r ≠ 0) (hrn : rn ≠ 0) (hrr : rn ≠ r) (h : Hd c r w tp st S D) (hc : Cl w c) (ht : w.heap[tp]? = some (.cells (TreeCells st .nilIface ns nd lr ls ld lm gv ov km) 77 (0, 0))) (hg : w.ownsRow 0 3 1 gv gone.length (gone.map natV)) (hgo : ∀ b, gv.ownBlock = some b → c b = r) (hk : BytesAt (Dt c) w kv k) (hv : BytesAt (Dt c) w vv v) (hw : wrong k v = 0) (hl : S.state.length ≤ S.pages) (hlen : gone.length ≤ 900000) :
 Calls Tryz.prog 10 #[.pointer (some ⟨tp, 0, none⟩), kv, vv] w (TPutRes c r rn w tp st lm km S D none lr ov ls ld gone (k, v)) := by
 have HM := zhd (fun (w_ : World) (hf : Fr C0 w w_) => z9z (h.fr0 hf) (hk.fr0 hf) (hv.fr0 hf))
 rw [hw] at HM
 have hkl : k.length ≤ 64 ∧ v.length ≤ 1800 := by
  unfold wrong at hw
  split at hw
  · cases hw
  · split at hw
    · cases hw
    · omega
 have HCK := zhd (fun (w_ : World) (hf : Fr C0 w w_) => z2z (hk.fr0 hf) (by omega))
 have HCV := zhd (fun (w_ : World) (hf : Fr C0 w w_) => z2z (hv.fr0 hf) (by omega))
 obtain ⟨A, cc, rfl, -⟩ := hk.form
 obtain ⟨A', cc', rfl, -⟩ := hv.form
 have F0 := zhd ((Fr.refl C0 w).alloc (.cells #[.int .i64 0] 28))
 have F1 := zhd ((F0.out.drew).alloc (.cells #[.pointer (some ⟨tp, 0, none⟩), .slice none 0 0] 89))
 have t1 : w.cell? ⟨tp, 1, none⟩ = some .nilIface := z2e ht 1 rfl
 have t2 : w.cell? ⟨tp, 2, none⟩ = some (.int .i64 ns) := z2e ht 2 rfl
 have t3 : w.cell? ⟨tp, 3, none⟩ = some (.int .i64 nd) := z2e ht 3 rfl
 have HT := zhd ht
 have HH := zhd h
 have HC := zhd hc
 have HG := zhd hg
 have HGO := zhd hgo
 have HKV : Hid (KVok (k, v)) := zhd (by
  refine ⟨?_, hkl.1, hkl.2⟩
  show 1 ≤ k.length
  unfold wrong at hw
  split at hw
  · cases hw
  · rename_i h; exact List.length_pos_iff.2 h)
 clear h hc ht hg hgo hk hv hw
 go_enter_defers Tryz.func10, Tryz.ntmps10
 go_wp2_with fail
 refine (HM.out _ F0.out).mono ?_
 rintro e w1 ⟨rfl, rfl⟩
 go_wp2_with fail
 refine (HCK.out _ F1.out).mono ?_
 rintro e w2 ⟨k2, rfl, f2, b2⟩
 have F2 := zhd (F1.out.trans0 f2)
 have F12 := zhd f2
 have B2 := zhd b2
 obtain ⟨A2, c2, rfl, -⟩ := b2.form
 have S2 := f2.size
 clear HM HCK f2 b2
 go_wp2_with fail
 refine (HCV.out _ F2.out).mono ?_
 rintro e w3 ⟨v3, rfl, f3, b3⟩
 have F3 := zhd (F2.out.trans0 f3)
 have F23 := zhd f3
 have B3 := zhd b3
 obtain ⟨A3, c3, rfl, -⟩ := b3.form
 clear HCV f3 b3
 have F4 := zhd (F3.out.alloc (.cells #[.slice A2 k.length c2, .slice A3 v.length c3] 92))
 have t1' := F4.out.cell0 t1
 have t2' := F4.out.cell0 t2
 have t3' := F4.out.cell0 t3
 clear t1 t2 t3
 go_wp2_with fail
 have f34 := (((((Fr.refl C0 w3).alloc (.cells #[.slice A2 k.length c2, .slice A3 v.length c3] 92)).alloc (.cells #[wLeaf (w3.heap.size + 1 + 1 + 1), .int .i64 1, .int .i64 1] 73)).alloc (.cells #[.slice A2 k.length c2, .slice A3 v.length c3] 92)).alloc (.cells #[.int .i64 0, .slice (some ⟨w3.heap.size + 1 + 1, 0, none⟩) 1 1] 96))
 have hb2 := ((Fr.refl C0 _).alloc (.cells #[.int .i64 0, .slice (some ⟨w3.heap.size + 1 + 1, 0, none⟩) 1 1] 96)).blk (heap_alloc_new (((w3.alloc (.cells #[.slice A2 k.length c2, .slice A3 v.length c3] 92)).alloc (.cells #[wLeaf (w3.heap.size + 1 + 1 + 1), .int .i64 1, .int .i64 1] 73))) (.cells #[.slice A2 k.length c2, .slice A3 v.length c3] 92)) (fun h => h)
 have hb3 := heap_alloc_new (((w3.alloc (.cells #[.slice A2 k.length c2, .slice A3 v.length c3] 92)).alloc (.cells #[wLeaf (w3.heap.size + 1 + 1 + 1), .int .i64 1, .int .i64 1] 73)).alloc (.cells #[.slice A2 k.length c2, .slice A3 v.length c3] 92)) (.cells #[.int .i64 0, .slice (some ⟨w3.heap.size + 1 + 1, 0, none⟩) 1 1] 96)
 rw [show ((w3.alloc (.cells #[.slice A2 k.length c2, .slice A3 v.length c3] 92)).alloc (.cells #[wLeaf (w3.heap.size + 1 + 1 + 1), .int .i64 1, .int .i64 1] 73)).heap.size = w3.heap.size + 1 + 1 by simp] at hb2
 rw [show (((w3.alloc (.cells #[.slice A2 k.length c2, .slice A3 v.length c3] 92)).alloc (.cells #[wLeaf (w3.heap.size + 1 + 1 + 1), .int .i64 1, .int .i64 1] 73)).alloc (.cells #[.slice A2 k.length c2, .slice A3 v.length c3] 92)).heap.size = w3.heap.size + 1 + 1 + 1 by simp] at hb3
 generalize (((w3.alloc (.cells #[.slice A2 k.length c2, .slice A3 v.length c3] 92)).alloc (.cells #[wLeaf (w3.heap.size + 1 + 1 + 1), .int .i64 1, .int .i64 1] 73)).alloc (.cells #[.slice A2 k.length c2, .slice A3 v.length c3] 92)).alloc (.cells #[.int .i64 0, .slice (some ⟨w3.heap.size + 1 + 1, 0, none⟩) 1 1] 96) = w4 at *
 have hl4 : w3.heap.size + 1 + 1 + 1 < w4.heap.size := (Array.getElem?_eq_some_iff.1 hb3).1
 have hs1 : ((w.alloc (.cells #[.int .i64 0] 28)).drew.alloc (.cells #[.pointer (some ⟨tp, 0, none⟩), .slice none 0 0] 89)).heap.size = w.heap.size + 2 := by simp
 have hs3 := F23.out.size
 have f14 : Fr C0 ((w.alloc (.cells #[.int .i64 0] 28)).drew.alloc (.cells #[.pointer (some ⟨tp, 0, none⟩), .slice none 0 0] 89)) w4 := (F12.out.trans0 F23.out).trans0 f34
 have hbe : w4.heap[w.heap.size]? = some (.cells #[.int .i64 0] 28 (0, 0)) := f14.blk (((Fr.refl C0 _).drew.alloc _).blk (heap_alloc_new w _) (fun h => h)) (fun h => h)
 have hbw : w4.heap[w.heap.size + 1]? = some (.cells #[.pointer (some ⟨tp, 0, none⟩), .slice none 0 0] 89 (0, 0)) := f14.blk (by
  have := heap_alloc_new ((w.alloc (.cells #[.int .i64 0] 28)).drew) (.cells #[.pointer (some ⟨tp, 0, none⟩), .slice none 0 0] 89)
  rwa [show ((w.alloc (.cells #[.int .i64 0] 28)).drew).heap.size = w.heap.size + 1 by simp] at this) (fun h => h)
 have f04 : Fr C0 w w4 := F3.out.trans0 f34
 obtain ⟨q, hq0, hq1, hq2, hq3⟩ := zbl HC.out r rn
 obtain ⟨c1, hce, hcw, hcn, hc0, hag, hcl⟩ : ∃ c1 : Nat → Nat, c1 w.heap.size = q + r + rn + 1 ∧ c1 (w.heap.size + 1) = q ∧ c1 (w3.heap.size + 1 + 1 + 1) = rn ∧ (∀ b, w.heap.size + 2 ≤ b → b ≠ w3.heap.size + 1 + 1 + 1 → c1 b = 0) ∧ Ag w.heap.size c c1 ∧ Cl w4 c1 := by
  refine ⟨fun b => if b = w.heap.size then q + r + rn + 1 else if b = w.heap.size + 1 then q else if b = w3.heap.size + 1 + 1 + 1 then rn else c b, by simp, by simp, ?_, fun b h1 h2 => ?_, fun b hb => ?_, fun b hb => ?_⟩
  · simp only []; rw [if_neg (by omega), if_neg (by omega)]; simp
  · simp only []; rw [if_neg (by omega), if_neg (by omega), if_neg h2]; exact HC.out b (by omega)
  · simp only []; rw [if_neg (by omega), if_neg (by omega), if_neg (by omega)]
  · simp only []; rw [if_neg (by omega), if_neg (by omega), if_neg (by omega)]; exact HC.out b (by omega)
 have hrep : RootAt c1 rn w4 (pgs D) D.blocks False (some (1, .node (.mem (w3.heap.size + 1 + 1 + 1) 0 0) [(k, v)] [])) (wLeaf (w3.heap.size + 1 + 1 + 1)) := by
  refine ⟨z8m hb3 (ItemsAt.ofCells (xs := [.slice A2 k.length c2, .slice A3 v.length c3]) (Row.ofBlock hb2 (hc0 _ (by omega) (by omega)) (by unfold maxLen; simp) rfl) ?_) hcn, zbs _ HKV.out⟩
  have k2 := ((B2.out.mono (F' := fun b => w.heap.size + 2 ≤ b ∧ b < w3.heap.size) (fun b h hl => ⟨by omega, by omega⟩)).fr0 (F23.out.trans0 f34)).mono (F' := Dt c1) (fun b h _ => hc0 b h.1 (by omega))
  have k3 := ((B3.out.mono (F' := fun b => w.heap.size + 2 ≤ b ∧ b < w3.heap.size) (fun b h hl => ⟨by omega, by omega⟩)).fr0 f34).mono (F' := Dt c1) (fun b h _ => hc0 b h.1 (by omega))
  exact .cons k2 k3 .nil
 have hacc := zbp (n0 := w.heap.size) (k, v) gone (show w.heap.size ≤ w3.heap.size + 1 + 1 + 1 by omega)
 have HE := zhd (fun w5 gv' c5 => @zcq c c1 c5 r rn (q + r + rn + 1) w.heap.size w w4 w5 tp st lm km S D none (some (1, .node (.mem (w3.heap.size + 1 + 1 + 1) 0 0) [(k, v)] [])) lr gv gv' ov (wLeaf (w3.heap.size + 1 + 1 + 1)) ls ld gone (gone ++ []) (k, v) _ _ _ hr0 hrr (by omega) (by omega) (by omega) HH.out HT.out HG.out HGO.out hag f04 hrep rfl hrep.2 hacc)
 have hrd : rootDirty (some (1, .node (.mem (w3.heap.size + 1 + 1 + 1) 0 0) [(k, v)] [])) = 1 := by simp [rootDirty, dirtyN, sumN]
 have e0 := z2e hbe 0 rfl
 by_cases hfull : S.pages - S.state.length < 1
 · refine (za7 ((HH.out.ag hag).fr0 f04) hrep (by rw [hrd]; omega) hl (by rw [hrd]; exact hfull)).mono ?_
   rintro e w5 ⟨rfl, f5⟩
   have hbe5 := f5.blk hbe (fun h => h)
   have e5 := z2e hbe5 0 rfl
   have ze := z2c 0 hbe5
   have FE := zhd ((f04.trans0 f5).setCell (p := ⟨w.heap.size, 0, none⟩) (.inl (Nat.le_refl _)) (.int .i64 21))
   have HACC := zhd (And.intro hrep.2 (And.intro hacc hrd))
   have HFU := zhd hfull
   clear hbe hbw hbe5 f5 f04 f14 f34 hb2 hb3 hrep hacc hce hcw hcn hc0 hag hcl e0 hrd hfull
   go_wp2_with fail
   refine leaves_cons (f := 41) (args := #[.pointer (some ⟨w.heap.size, 0, none⟩)]) (by simp) (by simp [go_sem]) ?_
   refine (z9s _ _).mono ?_
   rintro e u' wq ⟨rfl, rfl, rfl⟩
   simp [Leaves, settle, results, Tryz.results10, go_sem, e5]
   exact ⟨some (1, .node (.mem (w3.heap.size + 1 + 1 + 1) 0 0) [(k, v)] []), _, rfl, HACC.out.1, HACC.out.2.1, .inl ⟨rfl, by rw [HACC.out.2.2]; exact HFU.out, FE.out⟩⟩
 · refine (za8 (gone2 := []) ((HH.out.ag hag).fr0 f04) hcl hrep (by rw [hrd]; omega) hl (by rw [hrd]; omega) (f04.blk HT.out (fun h => h)) (z0m HG.out f04 (fun _ _ h => h)) (fun b hb => (hag b (HG.out.lt b hb).2).trans (HGO.out b hb)) hr0 hq2 ⟨_, hbw, World.ownsRow_nil _ _ _ _, hcw, fun b e => by simp [Value.ownBlock] at e⟩ (by simp; omega)).mono ?_
   rintro e w5 ⟨rfl, f5, gv5, c5, ag5, cl5, ht5, og5, oc5⟩
   have hbe5 := f5.blk hbe (fun h => by
    rcases h with h | h
    · have := (Array.getElem?_eq_some_iff.1 HT.out).1; omega
    · have := (HG.out.lt _ h).2; omega)
   have e5 := z2e hbe5 0 rfl
   have ze := z2c 0 hbe5
   have FE := zhd (fun u => HE.out w5 gv5 c5 (by rw [hrd]; omega) f5 ag5 cl5 ht5 og5 oc5 (Nat.le_refl _) (by omega) hce u)
   clear hbe hbw hbe5 f5 f04 f14 f34 hb2 hb3 hrep hacc hce hcw hcn hc0 hag hcl e0 ag5 cl5 ht5 og5 oc5 HE
   go_wp2_with fail
   refine leaves_cons (f := 41) (args := #[.pointer (some ⟨w.heap.size, 0, none⟩)]) (by simp) (by simp [go_sem]) ?_
   refine (z9s _ _).mono ?_
   rintro e u' wq ⟨rfl, rfl, rfl⟩
   simp [Leaves, settle, results, Tryz.results10, go_sem, e5]
   exact FE.out _
theorem zcs {c c6 : Nat → Nat} {r rn q q3 eb wp : Nat} {w w6 : World} {tp st lm km : Nat} {S : SSt} {D : DSt} {o o' : Root} {nr lr gv ov rv : Value} {ns nd ls ld sz dp : Int} {gone gone2 : List Nat} {x : KV} (hr0 : r ≠ 0) (hrr : rn ≠ r) (hq0 : q3 ≠ 0) (hqr : q3 ≠ r) (hqn : q3 ≠ rn) (hqq : q ≠ r) (hh : Hd c r w tp st S D) (ht : w.heap[tp]? = some (.cells (TreeCells st nr ns nd lr ls ld lm gv ov km) 77 (0, 0))) (hg : w.ownsRow 0 3 1 gv gone.length (gone.map natV)) (hgo : ∀ b, gv.ownBlock = some b → c b = r) (hag : Ag w.heap.size c c6) (hcl : Cl w6 c6) (f6 : Fr C0 w w6) (hr : RootAt c6 rn w6 (pgs D) D.blocks False o' rv)
 (h1 : rootL o' = putL x (rootL o)) (h3 : RAcc w.heap.size o o' gone (gone ++ gone2)) (hb : rootDirty o' ≤ 1000000) (hl : S.state.length ≤ S.pages) (hsz : sz = ((rootL o').length : Int)) (hdp : dp = (rootD o' : Int)) (he1 : w.heap.size ≤ eb) (hbe : w6.heap[eb]? = some (.cells #[.int .i64 0] 28 (0, 0))) (hce : c6 eb = q3) (hwk : WorkAt c6 q w6 wp tp gone2) (hlen : gone.length + gone2.length ≤ 1000000) :
 Calls Tryz.prog 43 #[.pointer (some ⟨tp, 0, none⟩), .agg #[rv, .int .i64 sz, .int .i64 dp], .pointer (some ⟨wp, 0, none⟩)] w6 fun e w7 => ∃ i : Int, e = .returned (.int .i64 i) ∧ w7.cell? ⟨eb, 0, none⟩ = some (.int .i64 0) ∧ w7.frozen? ⟨eb, 0, none⟩ = false ∧ Hid (∀ u, TPutRes c r rn w tp st lm km S D o lr ov ls ld gone x (.returned (.int .i64 i)) (w7.setCell ⟨eb, 0, none⟩ u)) := by
 subst hsz hdp
 have hsh : RootSh o' := by cases o' with | none => trivial | some p => exact hr.2
 by_cases hfull : S.pages - S.state.length < rootDirty o'
 · refine (za7 ((hh.ag hag).fr0 f6) hr hb hl hfull).mono ?_
   rintro e w7 ⟨rfl, f7⟩
   have hbe7 := f7.blk hbe (fun h => h)
   exact ⟨21, rfl, z2e hbe7 0 rfl, z2c 0 hbe7, zhd fun u => ⟨o', gone ++ gone2, h1, hsh, h3, .inl ⟨rfl, hfull, (f6.trans0 f7).setCell (p := ⟨eb, 0, none⟩) (.inl he1) u⟩⟩⟩
 · refine (za8 ((hh.ag hag).fr0 f6) hcl hr hb hl (by omega) (f6.blk ht (fun h => h)) (z0m hg f6 (fun _ _ h => h)) (fun b hb => (hag b (hg.lt b hb).2).trans (hgo b hb)) hr0 hqq hwk hlen).mono ?_
   rintro e w7 ⟨rfl, f7, gv7, c7, ag7, cl7, ht7, og7, oc7⟩
   have hbe7 := f7.blk hbe (fun h => by
    rcases h with h | h
    · have := (Array.getElem?_eq_some_iff.1 ht).1; omega
    · have := (hg.lt _ h).2; omega)
   exact ⟨0, rfl, z2e hbe7 0 rfl, z2c 0 hbe7, zhd fun u => zcq hr0 hrr hq0 hqr hqn hh ht hg hgo hag f6 hr h1 hsh h3 (by omega) f7 ag7 cl7 ht7 og7 oc7 he1 (Array.getElem?_eq_some_iff.1 hbe).1 hce u⟩
end
end Go.Proofs.YtcmicdcikechkaaGreat
