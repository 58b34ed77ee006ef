import Derived.Test.YtcmicdcikechkaaFull29
import Derived.Test.YtcmicdcikechkaaFull21
set_option linter.all false
section
namespace Go.Proofs.Ytcmicdcikechkaa
open Go.RowKit Go.H
set_option maxHeartbeats 2000000
set_option maxRecDepth 100000
theorem mclone_run {w : World} {m : Nat} {es : Array MapEntry} {k : Nat} (h : w.heap[m]? = some (.map es k)) : (callFunc 84 #[.iface 66 (.map (some m))]).run Try.prog w = .ok (.value (.iface 66 (.map (some w.heap.size)))) (w.alloc (.map es k)) := by
  have e : Extern.MapsClone.clone #[.iface 66 (.map (some m))] = (getObj m >>= fun o => match o with
      | .map entries clock => (newObj (.map entries clock) >>= fun n => pure (.iface 66 (.map (some n))))
      | _ => stuck "maps.clone: a map expected") := rfl
  rw [run_callFunc_extern (e := Extern.MapsClone.clone) Try.func84 (by kernel_rfl) rfl (by kernel_rfl) (by kernel_rfl), e]
  simp [Go.H.run_getObj_map h, Result.andThen, go_sem]
@[go_sem] theorem ta_map (v : Value) (w : World) : (Instr.typeAssert (.iface 66 v) 20 66 false).run Try.prog w = .ok v w := by kernel_rfl
theorem mclone_calls {w : World} {m : Nat} {L : List (Int × Value)} (h : MapIs w m L) :
    Calls Try.prog 59 #[.map (some m)] w fun e w' => e = .returned (.map (some w.heap.size)) ∧ MapIs w' w.heap.size L ∧ Fr C0 w w' := by
  obtain ⟨es, k, hb, he⟩ := h
  have hx := mclone_run hb
  have hq : ∀ w_, (binOp .eql 66 (.map (some m)) (.map none)).run Try.prog w_ = .ok (.bool false) w_ := fun w_ => by kernel_rfl
  clear hb
  go_enter Try.func59, Try.ntmps59
  go_wp2
  go_ret
  exact ⟨rfl, ⟨es, k, heap_alloc_new _ _, he⟩, (Fr.refl C0 w).alloc _⟩
theorem tsnap_calls {c : Nat → Nat} {r rn rm : Nat} {w : World} {tp st lm km : Nat} {nr lr gv ov : Value} {Z : TSt} {k : Nat} {sn : List Value} (ho : Owners r rn rm) (h : TreeIn c r rn rm w tp st lm km nr lr gv ov Z k sn) (hk : k ≤ 3) (hsn : ∀ u ∈ sn, u.oneCell' = true) :
    Calls Try.prog 30 #[.pointer (some ⟨tp, 0, none⟩)] w fun e w' => ∃ sp, e = .returned (.tuple #[.pointer (some ⟨sp, 0, none⟩), .int .i64 0]) ∧ Fr (fun b => c b = r ∨ c b = rm) w w' ∧ ∃ pm ov' c', Ag w.heap.size c c' ∧ TreeIn c' r rn rm w' tp st lm km nr lr gv ov' Z (k + 1) (sn ++ [.pointer (some ⟨sp, 0, none⟩)]) ∧ w'.heap[sp]? = some (.cells #[.pointer (some ⟨tp, 0, none⟩), lr, .map (some pm), .bool false] 129 (0, 0)) ∧ c' sp = rm := by
  have HD := Lib.hid (tdead_calls h.hd)
  have t4 : w.cell? ⟨tp, 4, none⟩ = some lr := blk_cell h.blk 4 rfl
  have t7 : w.cell? ⟨tp, 7, none⟩ = some (.map (some lm)) := blk_cell h.blk 7 rfl
  have t9 : w.cell? ⟨tp, 9, none⟩ = some ov := blk_cell h.blk 9 rfl
  have HM := Lib.hid (fun (w_ : World) (hf : Fr C0 w w_) => mclone_calls (h.live.fr hf (fun h => h)))
  have HL : Hid (lr = .nilIface ∨ ∃ tx y, lr = .iface tx y) := Lib.hid (by
    have := h.last
    cases hz : Z.last with
    | none => rw [hz] at this; exact .inl this
    | some p => rw [hz] at this; exact .inr this.1.iface)
  obtain ⟨A, cp, rfl, -⟩ := own_form h.orow
  have hkc : ¬ (4 : Int) ≤ (k : Int) := by omega
  have HH := Lib.hid h
  have HO := Lib.hid ho
  have HSN := Lib.hid hsn
  have HK := Lib.hid hk
  clear h ho hsn
  go_enter Try.func30, Try.ntmps30
  go_wp2_with fail
  refine HD.out.mono ?_
  rintro e w1 ⟨rfl, rfl⟩
  go_wp2_with fail
  rcases HL.out with rfl | ⟨tx, y, rfl⟩
  · skip
    refine wp_region_L (Fr C0 w) [] (by kernel_rfl) ?_
    have hSw0 : (Fr C0 w) _ := (Fr.refl C0 w).drew.drew
    refine tk 0 ⟨(some 15), (.move (.tmp 0)), 25, "snap.go:26", #[], none⟩ hSw0 ?_
    refine tk 1 ⟨(some 16), (.move (.tmp 0)), 25, "snap.go:26", #[], none⟩ hSw0 ?_
    refine tk 2 ⟨(some 17), (.nilCheck (.tmp 16)), 0, "snap.go:26", #[⟨1, .data⟩], none⟩ hSw0 ?_
    refine tk 3 ⟨(some 18), (.fieldAddr 69 (.tmp 17) 2), 0, "snap.go:26", #[⟨2, .data⟩], none⟩ hSw0 ?_
    refine tk 4 ⟨(some 19), (.fieldAddr 65 (.tmp 18) 0), 0, "snap.go:26", #[⟨3, .data⟩], none⟩ hSw0 ?_
    refine tk 5 ⟨(some 20), (.load 20 (.tmp 19)), 20, "snap.go:26", #[⟨4, .data⟩], none⟩ hSw0 ?_ (by intro w_ hS_; have b4 := hS_.cell0 t4; have b7 := hS_.cell0 t7; first | (go_simp; done) | (go_simp; with_reducible rfl))
    refine tk 6 ⟨(some 21), (.move (.tmp 0)), 25, "snap.go:26", #[], none⟩ hSw0 ?_
    refine tk 7 ⟨(some 22), (.nilCheck (.tmp 21)), 0, "snap.go:26", #[⟨6, .data⟩], none⟩ hSw0 ?_
    refine tk 8 ⟨(some 23), (.fieldAddr 69 (.tmp 22) 3), 0, "snap.go:26", #[⟨7, .data⟩], none⟩ hSw0 ?_
    refine tk 9 ⟨(some 24), (.load 66 (.tmp 23)), 66, "snap.go:26", #[⟨8, .data⟩], none⟩ hSw0 ?_ (by intro w_ hS_; have b4 := hS_.cell0 t4; have b7 := hS_.cell0 t7; first | (go_simp; done) | (go_simp; with_reducible rfl))
    refine one_ 10 ⟨(some 25), (.call ⟨(.value (.func 59)), #[(.tmp 24)], #[66]⟩), 66, "snap.go:26", #[⟨9, .data⟩], none⟩ (fun K hK => ?_)
    go_simp
    refine (HM.out _ (Fr.refl C0 w).drew.drew).mono ?_
    rintro e w2 ⟨rfl, m2, f2⟩
    simp only []
    have F2 := Lib.hid ((Fr.refl C0 w).drew.drew.trans0 f2)
    have M2 := Lib.hid m2
    have hs2 := f2.size
    clear f2 m2
    refine hK.out _ _ ?kS1 (fun hSw1 => ?kR1)
    case kS1 => exact F2.out
    clear hK K
    try simp only [Act.put, List.setIfInBounds_toArray, List.set_cons_zero, List.set_cons_succ]
    refine tk 11 ⟨(some 26), (.build 129 #[(0, (.tmp 15)), (1, (.tmp 20)), (2, (.tmp 25))]), 129, "snap.go:26", #[⟨0, .data⟩, ⟨5, .data⟩, ⟨10, .data⟩], none⟩ hSw1 ?_
    refine one_ 12 ⟨(some 27), (.box 129 (.tmp 26)), 82, "snap.go:26", #[⟨11, .data⟩], none⟩ (fun K hK => ?_)
    go_simp
    refine hK.out _ _ ?kS2 (fun hSw2 => ?kR2)
    case kS2 => exact F2.out.alloc _
    clear hK K
    try simp only [Act.put, List.setIfInBounds_toArray, List.set_cons_zero, List.set_cons_succ]
    refine tk 13 ⟨(some 4), (.assign (.tmp 27)), 82, "snap.go:26", #[⟨12, .data⟩, ⟨10, .chain⟩, ⟨0, .phase⟩, ⟨1, .phase⟩, ⟨2, .phase⟩, ⟨3, .phase⟩, ⟨4, .phase⟩, ⟨5, .phase⟩, ⟨6, .phase⟩, ⟨7, .phase⟩, ⟨8, .phase⟩, ⟨9, .phase⟩, ⟨10, .phase⟩, ⟨11, .phase⟩, ⟨12, .phase⟩], none⟩ hSw2 ?_
    refine wpAnyL_done (by kernel_rfl) ?_ _
    have hS := heap_alloc_new w2 (.cells #[.pointer (some ⟨tp, 0, none⟩), .nilIface, .map (some w.heap.size), .bool false] 129)
    have F3 := Lib.hid (F2.out.alloc (.cells #[.pointer (some ⟨tp, 0, none⟩), .nilIface, .map (some w.heap.size), .bool false] 129))
    have M3 := Lib.hid (M2.out.fr ((Fr.refl C0 w2).alloc (.cells #[.pointer (some ⟨tp, 0, none⟩), .nilIface, .map (some w.heap.size), .bool false] 129)) (fun h => h))
    have hsw : (w2.alloc (.cells #[.pointer (some ⟨tp, 0, none⟩), .nilIface, .map (some w.heap.size), .bool false] 129)).heap.size = w2.heap.size + 1 := by simp
    have hM2l : w.heap.size < w2.heap.size := M2.out.lt
    have HSW := Lib.hid hsw
    clear F2 M2 hsw
    generalize w2.alloc (.cells #[.pointer (some ⟨tp, 0, none⟩), .nilIface, .map (some w.heap.size), .bool false] 129) = w3 at *
    have HSP := Lib.hid hS
    have hsp : ∃ sp, sp = w2.heap.size := ⟨_, rfl⟩
    have f3r := F3.out.alloc (.cells #[.pointer (some ⟨w2.heap.size, 0, none⟩)] 82)
    have HOW := Lib.hid (own_kept HH.out.orow f3r (fun _ _ h => h))
    have hB4 := (Fr.refl C0 w3).alloc (.cells #[.pointer (some ⟨w2.heap.size, 0, none⟩)] 82)
    have k9 := f3r.cell0 t9
    have hbt := f3r.blk HH.out.blk (fun h => h)
    have hne : ∀ b, (Value.slice A k cp).ownBlock = some b → b ≠ tp := fun b e h2 => by
      obtain ⟨cur, h3⟩ := own_blk HH.out.orow e
      rw [h2, HH.out.blk] at h3
      simp [TreeCells] at h3
    have hntp : ¬ (Value.slice A k cp).ownBlock = some tp := fun e => hne tp e rfl
    have HNE := Lib.hid hne
    have HBT := Lib.hid hbt
    have F3R := Lib.hid f3r
    have HB4 := Lib.hid hB4
    have t9' := F3.out.cell0 t9
    have hs3 := F3.out.size
    clear hS f3r hB4 hbt hne hsp
    go_wp2_with (at_builtin; go_must (refine wpl_app sl_snap rfl _ _ rfl (v := .slice A k cp) (xv := .slice (some ⟨w3.heap.size, 0, none⟩) 1 1) rfl rfl (B := 0) HOW.out (Row.ofBlock (F := fun _ => True) (heap_alloc_new _ _) trivial (by unfold maxLen; omega) rfl) (by simp [Value.oneCell']) (by unfold maxLen; omega) (by omega) (Nat.zero_le _) ?_); intro v5 w5 o5 f5 k5 nil5; have k9' := f5.cell k9 hntp; have z9 := blk_free 9 (f5.blk HBT.out hntp); obtain ⟨A5, c5, rfl, -⟩ := own_form o5)
    go_ret2
    have hsw2 := HSW.out
    have hbt5 := f5.blk HBT.out hntp
    have F5 : Fr (fun b => (Value.slice A k cp).ownBlock = some b) w w5 := (F3R.out.mono (fun _ _ h => h.elim)).trans f5 (fun _ _ h => h)
    have gs := (Fr.refl (fun b => b = tp) w5).setCell (p := ⟨tp, 9, none⟩) (.inr rfl) (.slice A5 (k + 1) c5)
    have htl := (Array.getElem?_eq_some_iff.1 HH.out.blk).1
    have hsz4 : (w3.alloc (.cells #[.pointer (some ⟨w2.heap.size, 0, none⟩)] 82)).heap.size = w3.heap.size + 1 := by simp
    have hs5 := f5.size
    obtain ⟨c', hcs, hcm, hco, hag, hcl⟩ : ∃ c' : Nat → Nat, c' w2.heap.size = rm ∧ c' w.heap.size = rm ∧ (∀ b, (Value.slice A5 (k + 1) c5).ownBlock = some b → c' b = rm) ∧ Ag w.heap.size c c' ∧ Cl (w5.setCell ⟨tp, 9, none⟩ (.slice A5 (k + 1) c5)) c' := by
      refine ⟨setc (fun b => if b = w2.heap.size ∨ b = w.heap.size then rm else c b) (Value.slice A5 (k + 1) c5).ownBlock rm, ?_, ?_, fun b hb => by simp [setc, hb], fun b hb => ?_, fun b hb => ?_⟩
      · unfold setc; split
        · rfl
        · simp
      · unfold setc; split
        · rfl
        · simp
      · unfold setc; split
        · rename_i e
          rcases k5 b e with h | h
          · exact (HH.out.oo b h).symm
          · omega
        · simp only []; rw [if_neg (by omega)]
      · have := gs.size
        unfold setc; split
        · rename_i e; have := (o5.lt b e).2; omega
        · simp only []; rw [if_neg (by omega)]; exact HH.out.cl b (by omega)
    have hrm : ∀ b, (Value.slice A k cp).ownBlock = some b → c' b = rm ∧ b < w.heap.size := fun b e => ⟨(hag b (HH.out.orow.lt b e).2).trans (HH.out.oo b e), (HH.out.orow.lt b e).2⟩
    have hct : c' tp = r := (hag tp htl).trans HH.out.hd.own
    have hb6 := blk_set (i := 9) hbt5 (.slice A5 (k + 1) c5)
    have hap : Apart c' r w5 [tp] := fun b hb => by
      simp at hb; subst hb
      exact ⟨hct, _, _, _, hbt5, by decide, by decide, by decide⟩
    have hnl : ∀ x L, MapIs w x L → ¬ (Value.slice A k cp).ownBlock = some x := fun x L hx e => by
      obtain ⟨cur, h4⟩ := own_blk HH.out.orow e
      obtain ⟨es, kk, h5, _⟩ := hx
      rw [h5] at h4; injection h4 with h4; cases h4
    have hntp2 : ∀ b, c b = rm → ¬ b = tp := fun b e h => HO.out.mr (e.symm.trans (by rw [h]; exact HH.out.hd.own))
    have hS5 : w5.heap[w2.heap.size]? = some (.cells #[.pointer (some ⟨tp, 0, none⟩), .nilIface, .map (some w.heap.size), .bool false] 129 (0, 0)) := f5.blk (HB4.out.blk HSP.out (fun h => h)) (fun e => by have := (hrm _ e).2; have := hM2l; omega)
    refine ⟨w2.heap.size, rfl, (F5.mono (fun b _ e => .inr (HH.out.oo b e))).trans gs (fun b _ e => by rw [e]; exact .inl HH.out.hd.own), w.heap.size, .slice A5 (k + 1) c5, c', hag, ⟨⟨blk_cell hb6 0 rfl, ((HH.out.hd.store.ag hag).fr F5 (fun b e h => HO.out.mr (by rw [← (hrm b e).1]; exact h)) (fun b e h => HO.out.m0 (by rw [← (hrm b e).1]; exact h))).apart HO.out.r0 hap (gs.mono fun b _ e => by rw [e]; simp), HH.out.hd.alive, hct⟩, hcl, hb6, own_kept (own_kept HH.out.gr F5 (fun b e h => HO.out.mr ((HH.out.oo b h).symm.trans (HH.out.go b e)))) gs (fun b e h => by
      obtain ⟨cur, h3⟩ := own_blk HH.out.gr e
      rw [h, HH.out.blk] at h3
      simp [TreeCells] at h3), fun b e => (hag b (HH.out.gr.lt b e).2).trans (HH.out.go b e), own_kept (by simpa using o5) gs (fun b e h => HO.out.mr (by rw [← hco b e, h]; exact hct)), hco, (HH.out.live.fr F5 (hnl lm _ HH.out.live)).fr gs (hntp2 lm HH.out.lmo), (hag _ HH.out.live.lt).trans HH.out.lmo, (HH.out.kept.fr F5 (hnl km _ HH.out.kept)).fr gs (hntp2 km HH.out.kmo), (hag _ HH.out.kept.lt).trans HH.out.kmo, HH.out.lk, ((HH.out.now.ag hag).fr F5 (fun b e h => HO.out.nm (by rw [← (hrm b e).1]; exact h.symm)) (fun b e h => HO.out.m0 (by rw [← (hrm b e).1]; exact h))).fr gs (fun b e h => HO.out.nr (by rw [← h, e]; exact hct)) (fun b e h => HO.out.r0 (by rw [← h, e]; exact hct.symm)), RootAt.pageW HH.out.bk.lp HH.out.last, HH.out.bk⟩, gs.blk hS5 (fun e => by omega), hcs⟩
  · skip
    refine wp_region_L (Fr C0 w) [] (by kernel_rfl) ?_
    have hSw0 : (Fr C0 w) _ := (Fr.refl C0 w).drew.drew
    refine tk 0 ⟨(some 15), (.move (.tmp 0)), 25, "snap.go:26", #[], none⟩ hSw0 ?_
    refine tk 1 ⟨(some 16), (.move (.tmp 0)), 25, "snap.go:26", #[], none⟩ hSw0 ?_
    refine tk 2 ⟨(some 17), (.nilCheck (.tmp 16)), 0, "snap.go:26", #[⟨1, .data⟩], none⟩ hSw0 ?_
    refine tk 3 ⟨(some 18), (.fieldAddr 69 (.tmp 17) 2), 0, "snap.go:26", #[⟨2, .data⟩], none⟩ hSw0 ?_
    refine tk 4 ⟨(some 19), (.fieldAddr 65 (.tmp 18) 0), 0, "snap.go:26", #[⟨3, .data⟩], none⟩ hSw0 ?_
    refine tk 5 ⟨(some 20), (.load 20 (.tmp 19)), 20, "snap.go:26", #[⟨4, .data⟩], none⟩ hSw0 ?_ (by intro w_ hS_; have b4 := hS_.cell0 t4; have b7 := hS_.cell0 t7; first | (go_simp; done) | (go_simp; with_reducible rfl))
    refine tk 6 ⟨(some 21), (.move (.tmp 0)), 25, "snap.go:26", #[], none⟩ hSw0 ?_
    refine tk 7 ⟨(some 22), (.nilCheck (.tmp 21)), 0, "snap.go:26", #[⟨6, .data⟩], none⟩ hSw0 ?_
    refine tk 8 ⟨(some 23), (.fieldAddr 69 (.tmp 22) 3), 0, "snap.go:26", #[⟨7, .data⟩], none⟩ hSw0 ?_
    refine tk 9 ⟨(some 24), (.load 66 (.tmp 23)), 66, "snap.go:26", #[⟨8, .data⟩], none⟩ hSw0 ?_ (by intro w_ hS_; have b4 := hS_.cell0 t4; have b7 := hS_.cell0 t7; first | (go_simp; done) | (go_simp; with_reducible rfl))
    refine one_ 10 ⟨(some 25), (.call ⟨(.value (.func 59)), #[(.tmp 24)], #[66]⟩), 66, "snap.go:26", #[⟨9, .data⟩], none⟩ (fun K hK => ?_)
    go_simp
    refine (HM.out _ (Fr.refl C0 w).drew.drew).mono ?_
    rintro e w2 ⟨rfl, m2, f2⟩
    simp only []
    have F2 := Lib.hid ((Fr.refl C0 w).drew.drew.trans0 f2)
    have M2 := Lib.hid m2
    have hs2 := f2.size
    clear f2 m2
    refine hK.out _ _ ?kS3 (fun hSw1 => ?kR3)
    case kS3 => exact F2.out
    clear hK K
    try simp only [Act.put, List.setIfInBounds_toArray, List.set_cons_zero, List.set_cons_succ]
    refine tk 11 ⟨(some 26), (.build 129 #[(0, (.tmp 15)), (1, (.tmp 20)), (2, (.tmp 25))]), 129, "snap.go:26", #[⟨0, .data⟩, ⟨5, .data⟩, ⟨10, .data⟩], none⟩ hSw1 ?_
    refine one_ 12 ⟨(some 27), (.box 129 (.tmp 26)), 82, "snap.go:26", #[⟨11, .data⟩], none⟩ (fun K hK => ?_)
    go_simp
    refine hK.out _ _ ?kS4 (fun hSw2 => ?kR4)
    case kS4 => exact F2.out.alloc _
    clear hK K
    try simp only [Act.put, List.setIfInBounds_toArray, List.set_cons_zero, List.set_cons_succ]
    refine tk 13 ⟨(some 4), (.assign (.tmp 27)), 82, "snap.go:26", #[⟨12, .data⟩, ⟨10, .chain⟩, ⟨0, .phase⟩, ⟨1, .phase⟩, ⟨2, .phase⟩, ⟨3, .phase⟩, ⟨4, .phase⟩, ⟨5, .phase⟩, ⟨6, .phase⟩, ⟨7, .phase⟩, ⟨8, .phase⟩, ⟨9, .phase⟩, ⟨10, .phase⟩, ⟨11, .phase⟩, ⟨12, .phase⟩], none⟩ hSw2 ?_
    refine wpAnyL_done (by kernel_rfl) ?_ _
    have hS := heap_alloc_new w2 (.cells #[.pointer (some ⟨tp, 0, none⟩), .iface tx y, .map (some w.heap.size), .bool false] 129)
    have F3 := Lib.hid (F2.out.alloc (.cells #[.pointer (some ⟨tp, 0, none⟩), .iface tx y, .map (some w.heap.size), .bool false] 129))
    have M3 := Lib.hid (M2.out.fr ((Fr.refl C0 w2).alloc (.cells #[.pointer (some ⟨tp, 0, none⟩), .iface tx y, .map (some w.heap.size), .bool false] 129)) (fun h => h))
    have hsw : (w2.alloc (.cells #[.pointer (some ⟨tp, 0, none⟩), .iface tx y, .map (some w.heap.size), .bool false] 129)).heap.size = w2.heap.size + 1 := by simp
    have hM2l : w.heap.size < w2.heap.size := M2.out.lt
    have HSW := Lib.hid hsw
    clear F2 M2 hsw
    generalize w2.alloc (.cells #[.pointer (some ⟨tp, 0, none⟩), .iface tx y, .map (some w.heap.size), .bool false] 129) = w3 at *
    have HSP := Lib.hid hS
    have hsp : ∃ sp, sp = w2.heap.size := ⟨_, rfl⟩
    have f3r := F3.out.alloc (.cells #[.pointer (some ⟨w2.heap.size, 0, none⟩)] 82)
    have HOW := Lib.hid (own_kept HH.out.orow f3r (fun _ _ h => h))
    have hB4 := (Fr.refl C0 w3).alloc (.cells #[.pointer (some ⟨w2.heap.size, 0, none⟩)] 82)
    have k9 := f3r.cell0 t9
    have hbt := f3r.blk HH.out.blk (fun h => h)
    have hne : ∀ b, (Value.slice A k cp).ownBlock = some b → b ≠ tp := fun b e h2 => by
      obtain ⟨cur, h3⟩ := own_blk HH.out.orow e
      rw [h2, HH.out.blk] at h3
      simp [TreeCells] at h3
    have hntp : ¬ (Value.slice A k cp).ownBlock = some tp := fun e => hne tp e rfl
    have HNE := Lib.hid hne
    have HBT := Lib.hid hbt
    have F3R := Lib.hid f3r
    have HB4 := Lib.hid hB4
    have t9' := F3.out.cell0 t9
    have hs3 := F3.out.size
    clear hS f3r hB4 hbt hne hsp
    go_wp2_with (at_builtin; go_must (refine wpl_app sl_snap rfl _ _ rfl (v := .slice A k cp) (xv := .slice (some ⟨w3.heap.size, 0, none⟩) 1 1) rfl rfl (B := 0) HOW.out (Row.ofBlock (F := fun _ => True) (heap_alloc_new _ _) trivial (by unfold maxLen; omega) rfl) (by simp [Value.oneCell']) (by unfold maxLen; omega) (by omega) (Nat.zero_le _) ?_); intro v5 w5 o5 f5 k5 nil5; have k9' := f5.cell k9 hntp; have z9 := blk_free 9 (f5.blk HBT.out hntp); obtain ⟨A5, c5, rfl, -⟩ := own_form o5)
    go_ret2
    have hsw2 := HSW.out
    have hbt5 := f5.blk HBT.out hntp
    have F5 : Fr (fun b => (Value.slice A k cp).ownBlock = some b) w w5 := (F3R.out.mono (fun _ _ h => h.elim)).trans f5 (fun _ _ h => h)
    have gs := (Fr.refl (fun b => b = tp) w5).setCell (p := ⟨tp, 9, none⟩) (.inr rfl) (.slice A5 (k + 1) c5)
    have htl := (Array.getElem?_eq_some_iff.1 HH.out.blk).1
    have hsz4 : (w3.alloc (.cells #[.pointer (some ⟨w2.heap.size, 0, none⟩)] 82)).heap.size = w3.heap.size + 1 := by simp
    have hs5 := f5.size
    obtain ⟨c', hcs, hcm, hco, hag, hcl⟩ : ∃ c' : Nat → Nat, c' w2.heap.size = rm ∧ c' w.heap.size = rm ∧ (∀ b, (Value.slice A5 (k + 1) c5).ownBlock = some b → c' b = rm) ∧ Ag w.heap.size c c' ∧ Cl (w5.setCell ⟨tp, 9, none⟩ (.slice A5 (k + 1) c5)) c' := by
      refine ⟨setc (fun b => if b = w2.heap.size ∨ b = w.heap.size then rm else c b) (Value.slice A5 (k + 1) c5).ownBlock rm, ?_, ?_, fun b hb => by simp [setc, hb], fun b hb => ?_, fun b hb => ?_⟩
      · unfold setc; split
        · rfl
        · simp
      · unfold setc; split
        · rfl
        · simp
      · unfold setc; split
        · rename_i e
          rcases k5 b e with h | h
          · exact (HH.out.oo b h).symm
          · omega
        · simp only []; rw [if_neg (by omega)]
      · have := gs.size
        unfold setc; split
        · rename_i e; have := (o5.lt b e).2; omega
        · simp only []; rw [if_neg (by omega)]; exact HH.out.cl b (by omega)
    have hrm : ∀ b, (Value.slice A k cp).ownBlock = some b → c' b = rm ∧ b < w.heap.size := fun b e => ⟨(hag b (HH.out.orow.lt b e).2).trans (HH.out.oo b e), (HH.out.orow.lt b e).2⟩
    have hct : c' tp = r := (hag tp htl).trans HH.out.hd.own
    have hb6 := blk_set (i := 9) hbt5 (.slice A5 (k + 1) c5)
    have hap : Apart c' r w5 [tp] := fun b hb => by
      simp at hb; subst hb
      exact ⟨hct, _, _, _, hbt5, by decide, by decide, by decide⟩
    have hnl : ∀ x L, MapIs w x L → ¬ (Value.slice A k cp).ownBlock = some x := fun x L hx e => by
      obtain ⟨cur, h4⟩ := own_blk HH.out.orow e
      obtain ⟨es, kk, h5, _⟩ := hx
      rw [h5] at h4; injection h4 with h4; cases h4
    have hntp2 : ∀ b, c b = rm → ¬ b = tp := fun b e h => HO.out.mr (e.symm.trans (by rw [h]; exact HH.out.hd.own))
    have hS5 : w5.heap[w2.heap.size]? = some (.cells #[.pointer (some ⟨tp, 0, none⟩), .iface tx y, .map (some w.heap.size), .bool false] 129 (0, 0)) := f5.blk (HB4.out.blk HSP.out (fun h => h)) (fun e => by have := (hrm _ e).2; have := hM2l; omega)
    refine ⟨w2.heap.size, rfl, (F5.mono (fun b _ e => .inr (HH.out.oo b e))).trans gs (fun b _ e => by rw [e]; exact .inl HH.out.hd.own), w.heap.size, .slice A5 (k + 1) c5, c', hag, ⟨⟨blk_cell hb6 0 rfl, ((HH.out.hd.store.ag hag).fr F5 (fun b e h => HO.out.mr (by rw [← (hrm b e).1]; exact h)) (fun b e h => HO.out.m0 (by rw [← (hrm b e).1]; exact h))).apart HO.out.r0 hap (gs.mono fun b _ e => by rw [e]; simp), HH.out.hd.alive, hct⟩, hcl, hb6, own_kept (own_kept HH.out.gr F5 (fun b e h => HO.out.mr ((HH.out.oo b h).symm.trans (HH.out.go b e)))) gs (fun b e h => by
      obtain ⟨cur, h3⟩ := own_blk HH.out.gr e
      rw [h, HH.out.blk] at h3
      simp [TreeCells] at h3), fun b e => (hag b (HH.out.gr.lt b e).2).trans (HH.out.go b e), own_kept (by simpa using o5) gs (fun b e h => HO.out.mr (by rw [← hco b e, h]; exact hct)), hco, (HH.out.live.fr F5 (hnl lm _ HH.out.live)).fr gs (hntp2 lm HH.out.lmo), (hag _ HH.out.live.lt).trans HH.out.lmo, (HH.out.kept.fr F5 (hnl km _ HH.out.kept)).fr gs (hntp2 km HH.out.kmo), (hag _ HH.out.kept.lt).trans HH.out.kmo, HH.out.lk, ((HH.out.now.ag hag).fr F5 (fun b e h => HO.out.nm (by rw [← (hrm b e).1]; exact h.symm)) (fun b e h => HO.out.m0 (by rw [← (hrm b e).1]; exact h))).fr gs (fun b e h => HO.out.nr (by rw [← h, e]; exact hct)) (fun b e h => HO.out.r0 (by rw [← h, e]; exact hct.symm)), RootAt.pageW HH.out.bk.lp HH.out.last, HH.out.bk⟩, gs.blk hS5 (fun e => by omega), hcs⟩
end Go.Proofs.Ytcmicdcikechkaa
end
