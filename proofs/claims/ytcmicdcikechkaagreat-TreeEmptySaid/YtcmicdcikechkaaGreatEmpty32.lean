import Derived.Test.YtcmicdcikechkaaGreatEmpty27
import Derived.Test.YtcmicdcikechkaaGreatEmpty19
import Derived.Test.YtcmicdcikechkaaGreatEmpty15
import Derived.Test.YtcmicdcikechkaaGreatEmpty04
import Derived.Test.YtcmicdcikechkaaGreatEmpty03
import Derived.Test.YtcmicdcikechkaaGreatEmpty24
import Derived.Test.YtcmicdcikechkaaGreatEmpty29
import Derived.Test.YtcmicdcikechkaaGreatEmpty30
import Derived.Test.YtcmicdcikechkaaGreatEmpty31
set_option linter.all false
section
namespace Go.Proofs.YtcmicdcikechkaaGreat
open Go.RowKit Go.H
set_option maxHeartbeats 2000000
set_option maxRecDepth 100000
theorem mclone_run {w : World} {m : Nat} {es : Array MapEntry} {k : Nat} (h : w.heap[m]? = some (.map es k)) : (callFunc 97 #[.iface 74 (.map (some m))]).run Tryz.prog w = .ok (.value (.iface 74 (.map (some w.heap.size)))) (w.alloc (.map es k)) := by
  have e : Extern.MapsClone.clone #[.iface 74 (.map (some m))] = (getObj m >>= fun o => match o with
      | .map entries clock => (newObj (.map entries clock) >>= fun n => pure (.iface 74 (.map (some n))))
      | _ => stuck "maps.clone: a map expected") := rfl
  rw [run_callFunc_extern (e := Extern.MapsClone.clone) Tryz.func97 (by kernel_rfl) rfl (by kernel_rfl) (by kernel_rfl), e]
  simp [Go.H.run_getObj_map h, Result.andThen, go_sem]
@[go_sem] theorem ta_map (v : Value) (w : World) : (Instr.typeAssert (.iface 74 v) 20 74 false).run Tryz.prog w = .ok v w := by kernel_rfl
theorem mclone_calls {w : World} {m : Nat} {L : List (Int × Value)} (h : MapIs w m L) :
    Calls Tryz.prog 64 #[.map (some m)] w fun e w' => e = .returned (.map (some w.heap.size)) ∧ MapIs w' w.heap.size L ∧ Fr C0 w w' := by
  obtain ⟨es, k, hb, he⟩ := h
  have hx := mclone_run hb
  have hq : ∀ w_, (binOp .eql 74 (.map (some m)) (.map none)).run Tryz.prog w_ = .ok (.bool false) w_ := fun w_ => by kernel_rfl
  clear hb
  go_enter Tryz.func64, Tryz.ntmps64
  go_wp2
  go_ret
  exact ⟨rfl, ⟨es, k, heap_alloc_new _ _, he⟩, (Fr.refl C0 w).alloc _⟩
theorem tsnap_calls {c : Nat → Nat} {r rn rm : Nat} {w : World} {tp st lm km : Nat} {nr lr gv ov : Value} {Z : TSt} {k : Nat} {sn : List Value} (ho : Owners r rn rm) (h : TreeIn c r rn rm w tp st lm km nr lr gv ov Z k sn) (hk : k ≤ 3) (hsn : ∀ u ∈ sn, u.oneCell' = true) :
    Calls Tryz.prog 29 #[.pointer (some ⟨tp, 0, none⟩)] w fun e w' => ∃ sp, e = .returned (.tuple #[.pointer (some ⟨sp, 0, none⟩), .int .i64 0]) ∧ Fr (fun b => c b = r ∨ c b = rm) w w' ∧ ∃ pm ov' c', Ag w.heap.size c c' ∧ TreeIn c' r rn rm w' tp st lm km nr lr gv ov' Z (k + 1) (sn ++ [.pointer (some ⟨sp, 0, none⟩)]) ∧ w'.heap[sp]? = some (.cells #[.pointer (some ⟨tp, 0, none⟩), lr, .map (some pm), .bool false] 130 (0, 0)) ∧ c' sp = rm := by
  have HD := Lib.hid (tdead_calls h.hd)
  have t4 : w.cell? ⟨tp, 4, none⟩ = some lr := blk_cell h.blk 4 rfl
  have t7 : w.cell? ⟨tp, 7, none⟩ = some (.map (some lm)) := blk_cell h.blk 7 rfl
  have t9 : w.cell? ⟨tp, 9, none⟩ = some ov := blk_cell h.blk 9 rfl
  have HM := Lib.hid (fun (w_ : World) (hf : Fr C0 w w_) => mclone_calls (h.live.fr hf (fun h => h)))
  have HL : Hid (lr = .nilIface ∨ ∃ tx y, lr = .iface tx y) := Lib.hid (by
    have := h.last
    cases hz : Z.last with
    | none => rw [hz] at this; exact .inl this
    | some p => rw [hz] at this; exact .inr this.1.iface)
  obtain ⟨A, cp, rfl, -⟩ := own_form h.orow
  have hkc : ¬ (4 : Int) ≤ (k : Int) := by omega
  have HH := Lib.hid h
  have HO := Lib.hid ho
  have HSN := Lib.hid hsn
  have HK := Lib.hid hk
  clear h ho hsn
  go_enter Tryz.func29, Tryz.ntmps29
  go_wp2_with fail
  refine HD.out.mono ?_
  rintro e w1 ⟨rfl, rfl⟩
  go_wp2_with fail
  rcases HL.out with rfl | ⟨tx, y, rfl⟩
  · skip
    refine wp_region_L (Fr C0 w) [] (by kernel_rfl) ?_
    have hSw0 : (Fr C0 w) _ := (Fr.refl C0 w).drew.drew
    refine tk 0 hSw0 ?_
    refine tk 1 hSw0 ?_
    refine tk 2 hSw0 ?_
    refine tk 3 hSw0 ?_
    refine tk 4 hSw0 ?_
    refine tk 5 hSw0 ?_ (hy := by intro w_ hS_; have b4 := hS_.cell0 t4; have b7 := hS_.cell0 t7; first | (go_simp; done) | (go_simp; with_reducible rfl))
    refine tk 6 hSw0 ?_
    refine tk 7 hSw0 ?_
    refine tk 8 hSw0 ?_
    refine tk 9 hSw0 ?_ (hy := by intro w_ hS_; have b4 := hS_.cell0 t4; have b7 := hS_.cell0 t7; first | (go_simp; done) | (go_simp; with_reducible rfl))
    refine one_ 10 rfl (fun K hK => ?_)
    go_simp
    refine (HM.out _ (Fr.refl C0 w).drew.drew).mono ?_
    rintro e w2 ⟨rfl, m2, f2⟩
    simp only []
    have F2 := Lib.hid ((Fr.refl C0 w).drew.drew.trans0 f2)
    have M2 := Lib.hid m2
    have hs2 := f2.size
    clear f2 m2
    refine hK.out _ _ ?kS1 (fun hSw1 => ?kR1)
    case kS1 => exact F2.out
    clear hK K
    try simp only [Act.put, List.setIfInBounds_toArray, List.set_cons_zero, List.set_cons_succ]
    refine tk 11 hSw1 ?_
    refine one_ 12 rfl (fun K hK => ?_)
    go_simp
    refine hK.out _ _ ?kS2 (fun hSw2 => ?kR2)
    case kS2 => exact F2.out.alloc _
    clear hK K
    try simp only [Act.put, List.setIfInBounds_toArray, List.set_cons_zero, List.set_cons_succ]
    refine tk 13 hSw2 ?_
    refine wpAnyL_done (by kernel_rfl) ?_ _
    have hS := heap_alloc_new w2 (.cells #[.pointer (some ⟨tp, 0, none⟩), .nilIface, .map (some w.heap.size), .bool false] 130)
    have F3 := Lib.hid (F2.out.alloc (.cells #[.pointer (some ⟨tp, 0, none⟩), .nilIface, .map (some w.heap.size), .bool false] 130))
    have M3 := Lib.hid (M2.out.fr ((Fr.refl C0 w2).alloc (.cells #[.pointer (some ⟨tp, 0, none⟩), .nilIface, .map (some w.heap.size), .bool false] 130)) (fun h => h))
    have hsw : (w2.alloc (.cells #[.pointer (some ⟨tp, 0, none⟩), .nilIface, .map (some w.heap.size), .bool false] 130)).heap.size = w2.heap.size + 1 := by simp
    have hM2l : w.heap.size < w2.heap.size := M2.out.lt
    have HSW := Lib.hid hsw
    clear F2 M2 hsw
    generalize w2.alloc (.cells #[.pointer (some ⟨tp, 0, none⟩), .nilIface, .map (some w.heap.size), .bool false] 130) = w3 at *
    have HSP := Lib.hid hS
    have hsp : ∃ sp, sp = w2.heap.size := ⟨_, rfl⟩
    have f3r := F3.out.alloc (.cells #[.pointer (some ⟨w2.heap.size, 0, none⟩)] 57)
    have HOW := Lib.hid (own_kept HH.out.orow f3r (fun _ _ h => h))
    have hB4 := (Fr.refl C0 w3).alloc (.cells #[.pointer (some ⟨w2.heap.size, 0, none⟩)] 57)
    have k9 := f3r.cell0 t9
    have hbt := f3r.blk HH.out.blk (fun h => h)
    have hne : ∀ b, (Value.slice A k cp).ownBlock = some b → b ≠ tp := fun b e h2 => by
      obtain ⟨cur, h3⟩ := own_blk HH.out.orow e
      rw [h2, HH.out.blk] at h3
      simp [TreeCells] at h3
    have hntp : ¬ (Value.slice A k cp).ownBlock = some tp := fun e => hne tp e rfl
    have HNE := Lib.hid hne
    have HBT := Lib.hid hbt
    have F3R := Lib.hid f3r
    have HB4 := Lib.hid hB4
    have t9' := F3.out.cell0 t9
    have hs3 := F3.out.size
    clear hS f3r hB4 hbt hne hsp
    go_wp2_with (at_builtin; go_must (refine wpl_app sl_snap rfl _ _ rfl (v := .slice A k cp) (xv := .slice (some ⟨w3.heap.size, 0, none⟩) 1 1) rfl rfl (B := 0) HOW.out (Row.ofBlock (F := fun _ => True) (heap_alloc_new _ _) trivial (by unfold maxLen; omega) rfl) (by simp [Value.oneCell']) (by unfold maxLen; omega) (by omega) (Nat.zero_le _) ?_); intro v5 w5 o5 f5 k5 nil5; have k9' := f5.cell k9 hntp; have z9 := blk_free 9 (f5.blk HBT.out hntp); obtain ⟨A5, c5, rfl, -⟩ := own_form o5)
    go_ret2
    have hsw2 := HSW.out
    have hbt5 := f5.blk HBT.out hntp
    have F5 : Fr (fun b => (Value.slice A k cp).ownBlock = some b) w w5 := (F3R.out.mono (fun _ _ h => h.elim)).trans f5 (fun _ _ h => h)
    have gs := (Fr.refl (fun b => b = tp) w5).setCell (p := ⟨tp, 9, none⟩) (.inr rfl) (.slice A5 (k + 1) c5)
    have htl := (Array.getElem?_eq_some_iff.1 HH.out.blk).1
    have hsz4 : (w3.alloc (.cells #[.pointer (some ⟨w2.heap.size, 0, none⟩)] 57)).heap.size = w3.heap.size + 1 := by simp
    have hs5 := f5.size
    obtain ⟨c', hcs, hcm, hco, hag, hcl⟩ : ∃ c' : Nat → Nat, c' w2.heap.size = rm ∧ c' w.heap.size = rm ∧ (∀ b, (Value.slice A5 (k + 1) c5).ownBlock = some b → c' b = rm) ∧ Ag w.heap.size c c' ∧ Cl (w5.setCell ⟨tp, 9, none⟩ (.slice A5 (k + 1) c5)) c' := by
      refine ⟨setc (fun b => if b = w2.heap.size ∨ b = w.heap.size then rm else c b) (Value.slice A5 (k + 1) c5).ownBlock rm, ?_, ?_, fun b hb => by simp [setc, hb], fun b hb => ?_, fun b hb => ?_⟩
      · unfold setc; split
        · rfl
        · simp
      · unfold setc; split
        · rfl
        · simp
      · unfold setc; split
        · rename_i e
          rcases k5 b e with h | h
          · exact (HH.out.oo b h).symm
          · omega
        · simp only []; rw [if_neg (by omega)]
      · have := gs.size
        unfold setc; split
        · rename_i e; have := (o5.lt b e).2; omega
        · simp only []; rw [if_neg (by omega)]; exact HH.out.cl b (by omega)
    have hrm : ∀ b, (Value.slice A k cp).ownBlock = some b → c' b = rm ∧ b < w.heap.size := fun b e => ⟨(hag b (HH.out.orow.lt b e).2).trans (HH.out.oo b e), (HH.out.orow.lt b e).2⟩
    have hct : c' tp = r := (hag tp htl).trans HH.out.hd.own
    have hb6 := blk_set (i := 9) hbt5 (.slice A5 (k + 1) c5)
    have hap : Apart c' r w5 [tp] := fun b hb => by
      simp at hb; subst hb
      exact ⟨hct, _, _, _, hbt5, by decide, by decide, by decide⟩
    have hnl : ∀ x L, MapIs w x L → ¬ (Value.slice A k cp).ownBlock = some x := fun x L hx e => by
      obtain ⟨cur, h4⟩ := own_blk HH.out.orow e
      obtain ⟨es, kk, h5, _⟩ := hx
      rw [h5] at h4; injection h4 with h4; cases h4
    have hntp2 : ∀ b, c b = rm → ¬ b = tp := fun b e h => HO.out.mr (e.symm.trans (by rw [h]; exact HH.out.hd.own))
    have hS5 : w5.heap[w2.heap.size]? = some (.cells #[.pointer (some ⟨tp, 0, none⟩), .nilIface, .map (some w.heap.size), .bool false] 130 (0, 0)) := f5.blk (HB4.out.blk HSP.out (fun h => h)) (fun e => by have := (hrm _ e).2; have := hM2l; omega)
    refine ⟨w2.heap.size, rfl, (F5.mono (fun b _ e => .inr (HH.out.oo b e))).trans gs (fun b _ e => by rw [e]; exact .inl HH.out.hd.own), w.heap.size, .slice A5 (k + 1) c5, c', hag, ⟨⟨blk_cell hb6 0 rfl, ((HH.out.hd.store.ag hag).fr F5 (fun b e h => HO.out.mr (by rw [← (hrm b e).1]; exact h)) (fun b e h => HO.out.m0 (by rw [← (hrm b e).1]; exact h))).apart HO.out.r0 hap (gs.mono fun b _ e => by rw [e]; simp), HH.out.hd.alive, hct⟩, hcl, hb6, own_kept (own_kept HH.out.gr F5 (fun b e h => HO.out.mr ((HH.out.oo b h).symm.trans (HH.out.go b e)))) gs (fun b e h => by
      obtain ⟨cur, h3⟩ := own_blk HH.out.gr e
      rw [h, HH.out.blk] at h3
      simp [TreeCells] at h3), fun b e => (hag b (HH.out.gr.lt b e).2).trans (HH.out.go b e), own_kept (by simpa using o5) gs (fun b e h => HO.out.mr (by rw [← hco b e, h]; exact hct)), hco, (HH.out.live.fr F5 (hnl lm _ HH.out.live)).fr gs (hntp2 lm HH.out.lmo), (hag _ HH.out.live.lt).trans HH.out.lmo, (HH.out.kept.fr F5 (hnl km _ HH.out.kept)).fr gs (hntp2 km HH.out.kmo), (hag _ HH.out.kept.lt).trans HH.out.kmo, HH.out.lk, ((HH.out.now.ag hag).fr F5 (fun b e h => HO.out.nm (by rw [← (hrm b e).1]; exact h.symm)) (fun b e h => HO.out.m0 (by rw [← (hrm b e).1]; exact h))).fr gs (fun b e h => HO.out.nr (by rw [← h, e]; exact hct)) (fun b e h => HO.out.r0 (by rw [← h, e]; exact hct.symm)), RootAt.pageW HH.out.bk.lp HH.out.last, HH.out.bk⟩, gs.blk hS5 (fun e => by omega), hcs⟩
  · skip
    refine wp_region_L (Fr C0 w) [] (by kernel_rfl) ?_
    have hSw0 : (Fr C0 w) _ := (Fr.refl C0 w).drew.drew
    refine tk 0 hSw0 ?_
    refine tk 1 hSw0 ?_
    refine tk 2 hSw0 ?_
    refine tk 3 hSw0 ?_
    refine tk 4 hSw0 ?_
    refine tk 5 hSw0 ?_ (hy := by intro w_ hS_; have b4 := hS_.cell0 t4; have b7 := hS_.cell0 t7; first | (go_simp; done) | (go_simp; with_reducible rfl))
    refine tk 6 hSw0 ?_
    refine tk 7 hSw0 ?_
    refine tk 8 hSw0 ?_
    refine tk 9 hSw0 ?_ (hy := by intro w_ hS_; have b4 := hS_.cell0 t4; have b7 := hS_.cell0 t7; first | (go_simp; done) | (go_simp; with_reducible rfl))
    refine one_ 10 rfl (fun K hK => ?_)
    go_simp
    refine (HM.out _ (Fr.refl C0 w).drew.drew).mono ?_
    rintro e w2 ⟨rfl, m2, f2⟩
    simp only []
    have F2 := Lib.hid ((Fr.refl C0 w).drew.drew.trans0 f2)
    have M2 := Lib.hid m2
    have hs2 := f2.size
    clear f2 m2
    refine hK.out _ _ ?kS3 (fun hSw1 => ?kR3)
    case kS3 => exact F2.out
    clear hK K
    try simp only [Act.put, List.setIfInBounds_toArray, List.set_cons_zero, List.set_cons_succ]
    refine tk 11 hSw1 ?_
    refine one_ 12 rfl (fun K hK => ?_)
    go_simp
    refine hK.out _ _ ?kS4 (fun hSw2 => ?kR4)
    case kS4 => exact F2.out.alloc _
    clear hK K
    try simp only [Act.put, List.setIfInBounds_toArray, List.set_cons_zero, List.set_cons_succ]
    refine tk 13 hSw2 ?_
    refine wpAnyL_done (by kernel_rfl) ?_ _
    have hS := heap_alloc_new w2 (.cells #[.pointer (some ⟨tp, 0, none⟩), .iface tx y, .map (some w.heap.size), .bool false] 130)
    have F3 := Lib.hid (F2.out.alloc (.cells #[.pointer (some ⟨tp, 0, none⟩), .iface tx y, .map (some w.heap.size), .bool false] 130))
    have M3 := Lib.hid (M2.out.fr ((Fr.refl C0 w2).alloc (.cells #[.pointer (some ⟨tp, 0, none⟩), .iface tx y, .map (some w.heap.size), .bool false] 130)) (fun h => h))
    have hsw : (w2.alloc (.cells #[.pointer (some ⟨tp, 0, none⟩), .iface tx y, .map (some w.heap.size), .bool false] 130)).heap.size = w2.heap.size + 1 := by simp
    have hM2l : w.heap.size < w2.heap.size := M2.out.lt
    have HSW := Lib.hid hsw
    clear F2 M2 hsw
    generalize w2.alloc (.cells #[.pointer (some ⟨tp, 0, none⟩), .iface tx y, .map (some w.heap.size), .bool false] 130) = w3 at *
    have HSP := Lib.hid hS
    have hsp : ∃ sp, sp = w2.heap.size := ⟨_, rfl⟩
    have f3r := F3.out.alloc (.cells #[.pointer (some ⟨w2.heap.size, 0, none⟩)] 57)
    have HOW := Lib.hid (own_kept HH.out.orow f3r (fun _ _ h => h))
    have hB4 := (Fr.refl C0 w3).alloc (.cells #[.pointer (some ⟨w2.heap.size, 0, none⟩)] 57)
    have k9 := f3r.cell0 t9
    have hbt := f3r.blk HH.out.blk (fun h => h)
    have hne : ∀ b, (Value.slice A k cp).ownBlock = some b → b ≠ tp := fun b e h2 => by
      obtain ⟨cur, h3⟩ := own_blk HH.out.orow e
      rw [h2, HH.out.blk] at h3
      simp [TreeCells] at h3
    have hntp : ¬ (Value.slice A k cp).ownBlock = some tp := fun e => hne tp e rfl
    have HNE := Lib.hid hne
    have HBT := Lib.hid hbt
    have F3R := Lib.hid f3r
    have HB4 := Lib.hid hB4
    have t9' := F3.out.cell0 t9
    have hs3 := F3.out.size
    clear hS f3r hB4 hbt hne hsp
    go_wp2_with (at_builtin; go_must (refine wpl_app sl_snap rfl _ _ rfl (v := .slice A k cp) (xv := .slice (some ⟨w3.heap.size, 0, none⟩) 1 1) rfl rfl (B := 0) HOW.out (Row.ofBlock (F := fun _ => True) (heap_alloc_new _ _) trivial (by unfold maxLen; omega) rfl) (by simp [Value.oneCell']) (by unfold maxLen; omega) (by omega) (Nat.zero_le _) ?_); intro v5 w5 o5 f5 k5 nil5; have k9' := f5.cell k9 hntp; have z9 := blk_free 9 (f5.blk HBT.out hntp); obtain ⟨A5, c5, rfl, -⟩ := own_form o5)
    go_ret2
    have hsw2 := HSW.out
    have hbt5 := f5.blk HBT.out hntp
    have F5 : Fr (fun b => (Value.slice A k cp).ownBlock = some b) w w5 := (F3R.out.mono (fun _ _ h => h.elim)).trans f5 (fun _ _ h => h)
    have gs := (Fr.refl (fun b => b = tp) w5).setCell (p := ⟨tp, 9, none⟩) (.inr rfl) (.slice A5 (k + 1) c5)
    have htl := (Array.getElem?_eq_some_iff.1 HH.out.blk).1
    have hsz4 : (w3.alloc (.cells #[.pointer (some ⟨w2.heap.size, 0, none⟩)] 57)).heap.size = w3.heap.size + 1 := by simp
    have hs5 := f5.size
    obtain ⟨c', hcs, hcm, hco, hag, hcl⟩ : ∃ c' : Nat → Nat, c' w2.heap.size = rm ∧ c' w.heap.size = rm ∧ (∀ b, (Value.slice A5 (k + 1) c5).ownBlock = some b → c' b = rm) ∧ Ag w.heap.size c c' ∧ Cl (w5.setCell ⟨tp, 9, none⟩ (.slice A5 (k + 1) c5)) c' := by
      refine ⟨setc (fun b => if b = w2.heap.size ∨ b = w.heap.size then rm else c b) (Value.slice A5 (k + 1) c5).ownBlock rm, ?_, ?_, fun b hb => by simp [setc, hb], fun b hb => ?_, fun b hb => ?_⟩
      · unfold setc; split
        · rfl
        · simp
      · unfold setc; split
        · rfl
        · simp
      · unfold setc; split
        · rename_i e
          rcases k5 b e with h | h
          · exact (HH.out.oo b h).symm
          · omega
        · simp only []; rw [if_neg (by omega)]
      · have := gs.size
        unfold setc; split
        · rename_i e; have := (o5.lt b e).2; omega
        · simp only []; rw [if_neg (by omega)]; exact HH.out.cl b (by omega)
    have hrm : ∀ b, (Value.slice A k cp).ownBlock = some b → c' b = rm ∧ b < w.heap.size := fun b e => ⟨(hag b (HH.out.orow.lt b e).2).trans (HH.out.oo b e), (HH.out.orow.lt b e).2⟩
    have hct : c' tp = r := (hag tp htl).trans HH.out.hd.own
    have hb6 := blk_set (i := 9) hbt5 (.slice A5 (k + 1) c5)
    have hap : Apart c' r w5 [tp] := fun b hb => by
      simp at hb; subst hb
      exact ⟨hct, _, _, _, hbt5, by decide, by decide, by decide⟩
    have hnl : ∀ x L, MapIs w x L → ¬ (Value.slice A k cp).ownBlock = some x := fun x L hx e => by
      obtain ⟨cur, h4⟩ := own_blk HH.out.orow e
      obtain ⟨es, kk, h5, _⟩ := hx
      rw [h5] at h4; injection h4 with h4; cases h4
    have hntp2 : ∀ b, c b = rm → ¬ b = tp := fun b e h => HO.out.mr (e.symm.trans (by rw [h]; exact HH.out.hd.own))
    have hS5 : w5.heap[w2.heap.size]? = some (.cells #[.pointer (some ⟨tp, 0, none⟩), .iface tx y, .map (some w.heap.size), .bool false] 130 (0, 0)) := f5.blk (HB4.out.blk HSP.out (fun h => h)) (fun e => by have := (hrm _ e).2; have := hM2l; omega)
    refine ⟨w2.heap.size, rfl, (F5.mono (fun b _ e => .inr (HH.out.oo b e))).trans gs (fun b _ e => by rw [e]; exact .inl HH.out.hd.own), w.heap.size, .slice A5 (k + 1) c5, c', hag, ⟨⟨blk_cell hb6 0 rfl, ((HH.out.hd.store.ag hag).fr F5 (fun b e h => HO.out.mr (by rw [← (hrm b e).1]; exact h)) (fun b e h => HO.out.m0 (by rw [← (hrm b e).1]; exact h))).apart HO.out.r0 hap (gs.mono fun b _ e => by rw [e]; simp), HH.out.hd.alive, hct⟩, hcl, hb6, own_kept (own_kept HH.out.gr F5 (fun b e h => HO.out.mr ((HH.out.oo b h).symm.trans (HH.out.go b e)))) gs (fun b e h => by
      obtain ⟨cur, h3⟩ := own_blk HH.out.gr e
      rw [h, HH.out.blk] at h3
      simp [TreeCells] at h3), fun b e => (hag b (HH.out.gr.lt b e).2).trans (HH.out.go b e), own_kept (by simpa using o5) gs (fun b e h => HO.out.mr (by rw [← hco b e, h]; exact hct)), hco, (HH.out.live.fr F5 (hnl lm _ HH.out.live)).fr gs (hntp2 lm HH.out.lmo), (hag _ HH.out.live.lt).trans HH.out.lmo, (HH.out.kept.fr F5 (hnl km _ HH.out.kept)).fr gs (hntp2 km HH.out.kmo), (hag _ HH.out.kept.lt).trans HH.out.kmo, HH.out.lk, ((HH.out.now.ag hag).fr F5 (fun b e h => HO.out.nm (by rw [← (hrm b e).1]; exact h.symm)) (fun b e h => HO.out.m0 (by rw [← (hrm b e).1]; exact h))).fr gs (fun b e h => HO.out.nr (by rw [← h, e]; exact hct)) (fun b e h => HO.out.r0 (by rw [← h, e]; exact hct.symm)), RootAt.pageW HH.out.bk.lp HH.out.last, HH.out.bk⟩, gs.blk hS5 (fun e => by omega), hcs⟩
end Go.Proofs.YtcmicdcikechkaaGreat
end
section
namespace Go.Proofs.YtcmicdcikechkaaGreat
open Go.RowKit Go.H
set_option maxHeartbeats 2000000
set_option maxRecDepth 100000
def PairsAt (F : Nat → Prop) (w : World) (v : Value) (L : List KV) : Prop := ∃ xs, Row F w v L.length 3 xs ∧ PairCells F w xs L
theorem PairsAt.fr {F C : Nat → Prop} {w w' : World} {v : Value} {L : List KV} (h : PairsAt F w v L) (hf : Fr C w w') (hd : ∀ b, F b → ¬ C b) : PairsAt F w' v L := by
  obtain ⟨xs, a, b⟩ := h
  exact ⟨xs, a.fr hf hd, b.fr hf hd⟩
theorem PairsAt.fr0 {F : Nat → Prop} {w w' : World} {v : Value} {L : List KV} (h : PairsAt F w v L) (hf : Fr C0 w w') : PairsAt F w' v L := h.fr hf (fun _ _ k => k)
theorem PairsAt.mono {F F' : Nat → Prop} {w : World} {v : Value} {L : List KV} (h : PairsAt F w v L) (hF : ∀ b, F b → b < w.heap.size → F' b) : PairsAt F' w v L := by
  obtain ⟨xs, a, b⟩ := h
  exact ⟨xs, a.mono hF, b.mono hF⟩
theorem PairsAt.form {F : Nat → Prop} {w : World} {v : Value} {L : List KV} (h : PairsAt F w v L) : ∃ A c, v = .slice A L.length c ∧ L.length ≤ c ∧ c ≤ maxLen := by
  obtain ⟨xs, a, b⟩ := h
  exact a.form
theorem PairsAt.at_ {F : Nat → Prop} {w : World} {A : Option Addr} {cp : Nat} {L : List KV} (h : PairsAt F w (.slice A L.length cp) L) (i : Nat) (hi : i < L.length) : ∃ g o kv vv, A = some ⟨g, o, none⟩ ∧ w.cell? ⟨g, o + i * 3, none⟩ = some (.int .i64 0) ∧ w.cell? ⟨g, o + i * 3 + 1, none⟩ = some kv ∧ w.cell? ⟨g, o + i * 3 + 2, none⟩ = some vv ∧ BytesAt F w kv L[i].1 ∧ BytesAt F w vv L[i].2 := by
  obtain ⟨xs, a, b⟩ := h
  obtain ⟨kv, vv, h0, h1, h2, h3, h4⟩ := b.at_ i hi
  obtain ⟨g, o, rfl, _, hc⟩ := a.cells h0
  exact ⟨g, o, kv, vv, rfl, hc _ _ h0, by rw [show o + i * 3 + 1 = o + (i * 3 + 1) by omega]; exact hc _ _ h1, by rw [show o + i * 3 + 2 = o + (i * 3 + 2) by omega]; exact hc _ _ h2, h3, h4⟩
theorem OutAt.pairs {pT B : Nat} {c : Nat → Nat} {q : Nat} {w : World} {v : Value} {L : List KV} {F : Nat → Prop} (h : OutAt pT B c q w v L) (hF : ∀ b, B ≤ b → (c b = 0 ∨ c b = q) → F b) : PairsAt F w v L := by
  obtain ⟨xs, a, b, e⟩ := h
  exact ⟨xs, Row.ofOwn a (fun b hb => hF b (e b hb).2 (.inr (e b hb).1)), b.mono fun b hb _ => hF b hb.2 (.inl hb.1)⟩
theorem copied2_calls {F : Nat → Prop} {w : World} {v : Value} {l : List UInt8} (h : BytesAt F w v l) (hn : l.length ≤ 100000) :
    Calls Tryz.prog 58 #[v] w fun e w' => ∃ v', e = .returned v' ∧ Fr C0 w w' ∧ w'.ownsRow w.heap.size 5 1 v' l.length (l.map bv) := by
  have HR := Lib.hid (h.row.mono (F' := fun b => b < w.heap.size) (fun b _ h => h))
  obtain ⟨A, c, rfl, h1, h2⟩ := h.form
  clear h
  go_enter Tryz.func58, Tryz.ntmps58
  go_wp2_with (at_builtin; go_must (refine wpl_app sl_u8 rfl _ _ rfl (v := .slice none 0 0) (xv := .slice A l.length c) rfl rfl (B := w.heap.size) (World.ownsRow_nil _ _ _ _) HR.out (oneCell_bv l) (by unfold maxLen; omega) (by omega) (by omega) ?_); intro v2 w2 o2 f2 k2 nil2)
  go_ret
  exact ⟨v2, rfl, f2.mono (fun b _ h => by simp [Value.ownBlock] at h), by simpa using o2⟩
theorem str2 {F G : Nat → Prop} {w : World} {u v : Value} {a b : List UInt8} (ha : BytesAt F w u a) (hb : BytesAt G w v b) : ∃ x y : ByteArray, Hid (∀ w_, Fr C0 w w_ → (convert 30 9 u).run Tryz.prog w_ = .ok (.string x) w_) ∧ Hid (∀ w_, Fr C0 w w_ → (convert 30 9 v).run Tryz.prog w_ = .ok (.string y) w_) ∧ Hid ((x.toList == y.toList) = decide (a = b)) :=
  ⟨_, _, Lib.hid fun w_ hf => bytes_str (ha.fr0 hf), Lib.hid fun w_ hf => bytes_str (hb.fr0 hf), Lib.hid (by rw [ByteArray.toList_eq, ByteArray.toList_eq]; simp [beq_dec])⟩
end Go.Proofs.YtcmicdcikechkaaGreat
end
section
namespace Go.Proofs.YtcmicdcikechkaaGreat
open Go.RowKit Go.H
set_option maxHeartbeats 2000000
set_option maxRecDepth 100000
theorem TreeAt.cl {c : Nat → Nat} {r rn rm : Nat} {w : World} {tp : Nat} {Z : TSt} {k : Nat} (h : TreeAt c r rn rm w tp Z k) : Cl w c := by
  obtain ⟨st, lm, km, nr, lr, gv, ov, sn, h⟩ := h
  exact h.cl
theorem commit_at {c : Nat → Nat} {r rn rm : Nat} {w : World} {tp : Nat} {Z : TSt} (ho : Owners r rn rm) (h : TreeAt c r rn rm w tp Z 0) (hn : Z.S.num < 1000000) :
    Calls Tryz.prog 11 #[.pointer (some ⟨tp, 0, none⟩)] w fun e w' => e = .returned (.int .i64 0) ∧ Fr (fun b => c b = r ∨ c b = rn ∨ c b = rm) w w' ∧ ∃ c' Z', Ag w.heap.size c c' ∧ TreeAt c' r rn rm w' tp Z' 0 ∧ rootL Z'.now = rootL Z.now ∧ Z'.last = Z'.now ∧ Z'.gone = [] ∧ rootD Z'.now = rootD Z.now ∧ Z'.S.pages = Z.S.pages ∧ Z'.S.num = Z.S.num + 1 ∧ rootDirty Z'.now = 0 := by
  obtain ⟨st, lm, km, nr, lr, gv, ov, sn, h⟩ := h
  refine (tcommit_calls ho h hn).mono ?_
  rintro e w' ⟨rfl, c', o', new, S1, D1, R, rv, ag, fr, h', e1, e2, e3, e4⟩
  refine ⟨rfl, fr, c', _, ag, ⟨st, lm, km, rv, rv, _, ov, sn, h'⟩, e1, rfl, rfl, e2, e3, by show S1.num + 1 = _; rw [e4], ?_⟩
  have hp : rootPage o' := h'.bk.lp
  show rootDirty o' = 0
  cases o' with
  | none => rfl
  | some p => exact page_dirty hp
theorem rollback_at {c : Nat → Nat} {r rn rm : Nat} {w : World} {tp k : Nat} {Z : TSt} (ho : Owners r rn rm) (h : TreeAt c r rn rm w tp Z k) :
    Calls Tryz.prog 34 #[.pointer (some ⟨tp, 0, none⟩)] w fun e w' => e = .returned (.int .i64 0) ∧ Fr (fun b => c b = r) w w' ∧ TreeAt c r rn rm w' tp { Z with now := Z.last, gone := [] } k := by
  obtain ⟨st, lm, km, nr, lr, gv, ov, sn, h⟩ := h
  have hl : lr = .nilIface ∨ ∃ tx y, lr = .iface tx y := by
    have := h.last
    cases hz : Z.last with
    | none => rw [hz] at this; exact .inl this
    | some p => rw [hz] at this; exact .inr this.1.iface
  refine (rollback_calls h.hd h.blk hl).mono ?_
  rintro e w' ⟨rfl, hb, hf⟩
  have hap : Apart c r w [tp] := fun b hb => by
    simp at hb; subst hb
    exact ⟨h.hd.own, _, _, _, h.blk, by decide, by decide, by decide⟩
  have hne : ∀ b, c b = rm → ¬ b = tp := fun b e h2 => ho.mr (e.symm.trans (by rw [h2]; exact h.hd.own))
  have hlast : RootAt c rn w' (pgs Z.D) Z.D.blocks False Z.last lr := RootAt.pageW h.bk.lp h.last
  refine ⟨rfl, hf.mono fun b _ e => by rw [e]; exact h.hd.own, st, lm, km, lr, lr, _, ov, sn, ⟨⟨blk_cell hb 0 rfl, h.hd.store.apart ho.r0 hap (hf.mono fun b _ e => by rw [e]; simp), h.hd.alive, h.hd.own⟩, h.cl.mono hf.size, hb, World.ownsRow_nil _ _ _ _, fun b e => by simp [Value.ownBlock] at e, own_kept h.orow hf (fun b e => hne b (h.oo b e)), h.oo, h.live.fr hf (hne lm h.lmo), h.lmo, h.kept.fr hf (hne km h.kmo), h.kmo, h.lk, hlast, hlast, ?_⟩⟩
  have hbk := h.bk
  refine ⟨hbk.st, hbk.hn, hbk.ln, hbk.hl, hbk.hb, fun id => by have := hbk.b2 id; show rcnt (.pg id) Z.last + 0 = _; rw [this]; rfl, hbk.b2, fun b j => ?_, hbk.lp, ?_, hbk.opn, hbk.ok, hbk.sl, hbk.sl, hbk.num, hbk.bl, hbk.bl⟩
  · show rcnt (.cl b j) Z.last ≤ 1
    have h1 := h.last
    have h2 := hbk.lp
    cases hz : Z.last with
    | none => exact Nat.zero_le _
    | some p =>
      rw [hz] at h1 h2
      rw [show rcnt (.cl b j) (some p) = cnt p.1 (.cl b j) p.2 from rfl, page_cl0 h2 h1.1]; omega
  · show rootDirty Z.last ≤ _
    have h2 := hbk.lp
    cases hz : Z.last with
    | none => exact Nat.zero_le _
    | some p =>
      rw [hz] at h2
      rw [show rootDirty (some p) = dirtyN p.1 p.2 from rfl, page_dirty h2]; omega
def pagesOf : Nat → T → List Nat
  | 0, _ => []
  | d + 1, .node nm _ ks => (match nm with | .page id => [id] | .mem .. => []) ++ (ks.map (pagesOf d)).flatten
theorem pagesOf_count (x : Nat) : ∀ (d : Nat) (t : T), (pagesOf d t).count x = cnt d (.pg x) t
  | 0, _ => rfl
  | d + 1, .node nm l ks => by
    have key : ∀ ks : List T, ((ks.map (pagesOf d)).flatten).count x = sumN (ks.map (cnt d (.pg x))) := by
      intro ks
      induction ks with
      | nil => rfl
      | cons k ks ih => simp only [List.map_cons, List.flatten_cons, List.count_append, sumN, ih, pagesOf_count x d k]
    simp only [pagesOf, cnt, List.count_append, key]
    cases nm with
    | page id =>
      simp only [Nm.cnt, Th.pg.injEq]
      by_cases h : x = id
      · subst h; simp
      · simp [h, List.count_cons, Ne.symm h]
    | mem n g o => simp [Nm.cnt]
theorem pagesOf_length : ∀ {d m : Nat} {t : T}, 1 ≤ m → Shape d m t → (pagesOf d t).length ≤ (flat d t).length
  | 0, _, _, _, _ => by simp [pagesOf]
  | d + 1, m, .node nm l ks, hm, h => by
    obtain ⟨h1, h2, h3, h4⟩ := h
    have hn : (match nm with | .page id => [id] | .mem .. => ([] : List Nat)).length ≤ 1 := by cases nm <;> simp
    by_cases hd : d = 0
    · subst hd
      rw [if_pos rfl] at h4
      subst h4
      show (_ ++ [].flatten).length ≤ (if 0 = 0 then l else _).length
      rw [if_pos rfl]
      simp only [List.length_append, List.flatten_nil, List.length_nil]
      omega
    · rw [if_neg hd] at h4
      show (_ ++ (ks.map (pagesOf d)).flatten).length ≤ (if d = 0 then l else _).length
      rw [if_neg hd, inter_length (by simpa using h4.1), List.length_append]
      have key : ∀ ks : List T, (∀ k ∈ ks, Shape d 2 k) → ((ks.map (pagesOf d)).flatten).length ≤ sumN ((ks.map (flat d)).map List.length) := by
        intro ks
        induction ks with
        | nil => intro _; simp [sumN]
        | cons k ks ih =>
          intro hk
          have := ih (fun a ha => hk a (List.mem_cons_of_mem _ ha))
          have h5 := pagesOf_length (by omega) (hk k (by simp))
          simp only [List.map_cons, List.flatten_cons, List.length_append, sumN]
          omega
      have := key ks h4.2
      omega
theorem held_le {Z : TSt} (h : Books Z) (hs : RootSh Z.last) : Z.S.state.length ≤ (rootL Z.last).length := by
  rw [h.st, marks_length]
  have hb : ∀ x ∈ Z.held, 0 < rcnt (.pg x) Z.last := fun x hx => by
    rw [h.b2 x, if_pos ((h.hl x).1 hx)]; omega
  cases hz : Z.last with
  | none =>
    rw [hz] at hb
    cases hh : Z.held with
    | nil => simp
    | cons x l => exact absurd (hb x (by rw [hh]; simp)) (by simp [rcnt])
  | some p =>
    obtain ⟨d, t⟩ := p
    rw [hz] at hb hs
    exact Nat.le_trans (sub_length h.hn fun x hx => List.count_pos_iff.1 (by rw [pagesOf_count]; exact hb x hx)) (pagesOf_length (Nat.le_refl _) hs)
theorem TreeAt.shl {c : Nat → Nat} {r rn rm : Nat} {w : World} {tp : Nat} {Z : TSt} {k : Nat} (h : TreeAt c r rn rm w tp Z k) : RootSh Z.last := by
  obtain ⟨st, lm, km, nr, lr, gv, ov, sn, h⟩ := h
  exact h.last.sh
theorem snap_at {c : Nat → Nat} {r rn rm : Nat} {w : World} {tp : Nat} {Z : TSt} (ho : Owners r rn rm) (h : TreeAt c r rn rm w tp Z 0) :
    Calls Tryz.prog 29 #[.pointer (some ⟨tp, 0, none⟩)] w fun e w' => ∃ sp, e = .returned (.tuple #[.pointer (some ⟨sp, 0, none⟩), .int .i64 0]) ∧ Fr (fun b => c b = r ∨ c b = rm) w w' ∧ ∃ c', Ag w.heap.size c c' ∧ TreeAt c' r rn rm w' tp Z 1 ∧
      ∀ (q n : Nat) (lov hiv : Value) (lo hi : Bs), q ≠ 0 → q ≠ r → q ≠ rn → (∀ b, c' b ≠ q) → n ≤ 4611686018427387904 → BytesAt (Dt c') w' lov lo → BytesAt (Dt c') w' hiv hi → lo.length ≤ 64 → hi.length ≤ 64 →
        Calls Tryz.prog 30 #[.pointer (some ⟨sp, 0, none⟩), lov, hiv, .int .i64 (n : Int)] w' fun e w2 => Fr C0 w' w2 ∧ ∃ v' c2, e = .returned (.tuple #[v', .int .i64 0]) ∧ Ag w'.heap.size c' c2 ∧ Cl w2 c2 ∧ Out w'.heap.size c2 q w2 v' ((rangeL lo hi (rootL Z.last)).take n) := by
  obtain ⟨st, lm, km, nr, lr, gv, ov, sn, h⟩ := h
  have hsn : sn = [] := List.eq_nil_of_length_eq_zero (by have := h.orow.1; simpa using this)
  refine (tsnap_calls ho h (by omega) (by rw [hsn]; simp)).mono ?_
  rintro e w' ⟨sp, rfl, f, pm, ov', c', ag, h', hs, _⟩
  refine ⟨sp, rfl, f, c', ag, ⟨st, lm, km, nr, lr, gv, ov', _, h'⟩, fun q n lov hiv lo hi a1 a2 a3 a4 a5 a6 a7 a8 a9 => ?_⟩
  refine (srange_calls a1 a2 a3 a4 a5 h'.hd h'.cl hs h'.last h'.bk.sl a6 a7 a8 a9 (by have := h'.bk.bl; omega)).mono ?_
  rintro e w2 ⟨f2, ⟨hX, _⟩ | h2⟩
  · exact hX.elim
  · exact ⟨f2, h2⟩
theorem get_at {c : Nat → Nat} {r rn rm : Nat} {w : World} {tp k : Nat} {Z : TSt} {kv : Value} {key : Bs} (h : TreeAt c r rn rm w tp Z k) (hk : BytesAt (Dt c) w kv key) (hw : wrong key [] = 0) :
    Calls Tryz.prog 13 #[.pointer (some ⟨tp, 0, none⟩), kv] w fun e w' => GetP w w' False e (getL key (rootL Z.now)) := by
  obtain ⟨st, lm, km, nr, lr, gv, ov, sn, h⟩ := h
  exact tgetp_calls h.hd h.cl h.blk h.now h.bk.sn hk hw
theorem range_at {c : Nat → Nat} {r rn rm q n : Nat} {w : World} {tp k : Nat} {Z : TSt} {lov hiv : Value} {lo hi : Bs} (hq0 : q ≠ 0) (hqr : q ≠ r) (hqn : q ≠ rn) (hqc : ∀ b, c b ≠ q) (hn : n ≤ 4611686018427387904) (h : TreeAt c r rn rm w tp Z k) (hlo : BytesAt (Dt c) w lov lo) (hhi : BytesAt (Dt c) w hiv hi) (hl1 : lo.length ≤ 64) (hl2 : hi.length ≤ 64) :
    Calls Tryz.prog 21 #[.pointer (some ⟨tp, 0, none⟩), lov, hiv, .int .i64 (n : Int)] w fun e w' => Fr C0 w w' ∧ ∃ v' c', e = .returned (.tuple #[v', .int .i64 0]) ∧ Ag w.heap.size c c' ∧ Cl w' c' ∧ Out w.heap.size c' q w' v' ((rangeL lo hi (rootL Z.now)).take n) := by
  obtain ⟨st, lm, km, nr, lr, gv, ov, sn, h⟩ := h
  refine (trange_calls hq0 hqr hqn hqc hn h.hd h.cl h.blk h.now h.bk.sn hlo hhi hl1 hl2 (by have := h.bk.bn; omega)).mono ?_
  rintro e w' ⟨f, ⟨hX, _⟩ | h'⟩
  · exact hX.elim
  · exact ⟨f, h'⟩
theorem len_at {c : Nat → Nat} {r rn rm : Nat} {w : World} {tp k : Nat} {Z : TSt} (h : TreeAt c r rn rm w tp Z k) : Calls Tryz.prog 15 #[.pointer (some ⟨tp, 0, none⟩)] w fun e w' => e = .returned (.int .i64 ((rootL Z.now).length : Int)) ∧ w = w' := by
  obtain ⟨st, lm, km, nr, lr, gv, ov, sn, h⟩ := h
  exact tlen_calls h.blk
theorem number_at {c : Nat → Nat} {r rn rm : Nat} {w : World} {tp k : Nat} {Z : TSt} (h : TreeAt c r rn rm w tp Z k) : Calls Tryz.prog 20 #[.pointer (some ⟨tp, 0, none⟩)] w fun e w' => e = .returned (.int .i64 (Z.S.num : Int)) ∧ w = w' := by
  obtain ⟨st, lm, km, nr, lr, gv, ov, sn, h⟩ := h
  exact tnumber_calls h.hd (by have := h.bk.num; omega)
theorem wrong_at {F G : Nat → Prop} {c : Nat → Nat} {r rn rm : Nat} {w : World} {tp n : Nat} {Z : TSt} {kv vv : Value} {k v : Bs} (h : TreeAt c r rn rm w tp Z n) (hk : BytesAt F w kv k) (hv : BytesAt G w vv v) (hw : wrong k v ≠ 0) :
    Calls Tryz.prog 10 #[.pointer (some ⟨tp, 0, none⟩), kv, vv] w fun e w' => e = .returned (.int .i64 (wrong k v : Int)) ∧ Fr C0 w w' := by
  obtain ⟨st, lm, km, nr, lr, gv, ov, sn, h⟩ := h
  exact tput_wrong h.hd hk hv hw
theorem owners_new {w : World} {c : Nat → Nat} (hc : Cl w c) : ∃ r rn rm, Owners r rn rm ∧ ∀ b, c b ≠ r ∧ c b ≠ rn ∧ c b ≠ rm := by
  have h : ∀ n, ∃ M, ∀ k, k < n → c k ≤ M := by
    intro n
    induction n with
    | zero => exact ⟨0, fun k h => absurd h (by omega)⟩
    | succ n ih =>
      obtain ⟨M, h⟩ := ih
      refine ⟨M + c n, fun k hk => ?_⟩
      by_cases e : k = n
      · subst e; omega
      · have := h k (by omega); omega
  obtain ⟨M, h⟩ := h w.heap.size
  have hb : ∀ b, c b ≤ M := fun b => by
    by_cases hk : b < w.heap.size
    · exact h b hk
    · have := hc b (by omega); omega
  exact ⟨M + 1, M + 2, M + 3, ⟨by omega, by omega, by omega, by omega, by omega, by omega⟩, fun b => by have := hb b; omega⟩
theorem lopen_calls {c : Nat → Nat} {r rn rm n : Nat} {w : World} (ho : Owners r rn rm) (hc : Cl w c) (h1 : 3 ≤ n) (h2 : n ≤ 4096) :
    Calls Tryz.prog 8 #[.int .i64 (n : Int)] w fun e w' => ∃ tp, e = .returned (.tuple #[.pointer (some ⟨w.heap.size + 1, 0, none⟩), .pointer (some ⟨tp, 0, none⟩)]) ∧ Fr C0 w w' ∧ ∃ c', Ag w.heap.size c c' ∧ TreeAt c' r rn rm w' tp (TSt.empty (newD n) 0) 0 := by
  have HN := Lib.hid (new_calls w n (by omega) h2)
  have HO := Lib.hid (fun (w_ : World) (c_ : Nat → Nat) (hd : DiskA (Dt c_) w_ (w.heap.size + 1) w.heap.size (.slice none 0 0) (newD n)) (e1 : c_ (w.heap.size + 1) = r) (e2 : c_ w.heap.size = r) (hc_ : Cl w_ c_) => open_empty (num := 0) ho hd e1 e2 (fun b hb => by simp [Value.ownBlock] at hb) hc_ rfl (by show (0 : Int) < 1; omega) h1 h2 (newD_len n) rfl (newD_ok n) (by omega) (openF_new (newD_read n)))
  have HC := Lib.hid hc
  clear hc
  go_enter Tryz.func8, Tryz.ntmps8
  go_wp2_with fail
  refine HN.out.mono ?_
  rintro e w1 ⟨rfl, f1, hs1, hd1⟩
  obtain ⟨c1, hc1, hc2, hag, hcl⟩ : ∃ c1 : Nat → Nat, c1 (w.heap.size + 1) = r ∧ c1 w.heap.size = r ∧ Ag w.heap.size c c1 ∧ Cl w1 c1 := by
    refine ⟨fun b => if b = w.heap.size ∨ b = w.heap.size + 1 then r else c b, by simp, by simp, fun b hb => ?_, fun b hb => ?_⟩
    · simp only []; rw [if_neg (by omega)]
    · simp only []; rw [if_neg (by omega)]; exact HC.out b (by omega)
  have HO1 := Lib.hid (HO.out w1 c1 (hd1.mono fun b hb _ => hb.elim) hc1 hc2 hcl)
  have F1 := Lib.hid f1
  have HS1 := Lib.hid hs1
  clear HN HO f1 hs1 hd1
  go_wp2_with fail
  refine HO1.out.mono ?_
  rintro e w2 ⟨f2, tp, c2, rfl, ag2, hle, ht2⟩
  have F2 := Lib.hid f2
  have T2 := Lib.hid ht2
  clear f2 ht2 HO1
  go_wp2
  go_ret2
  exact ⟨tp, rfl, F1.out.trans0 F2.out, c2, fun b hb => (ag2 b (by have := HS1.out; omega)).trans (hag b hb), T2.out⟩
end Go.Proofs.YtcmicdcikechkaaGreat
end
