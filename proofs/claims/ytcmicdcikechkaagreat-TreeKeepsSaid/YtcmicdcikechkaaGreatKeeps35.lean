import Derived.Test.YtcmicdcikechkaaGreatKeeps30
import Derived.Test.YtcmicdcikechkaaGreatKeeps21
import Derived.Test.YtcmicdcikechkaaGreatKeeps17
import Derived.Test.YtcmicdcikechkaaGreatKeeps04
import Derived.Test.YtcmicdcikechkaaGreatKeeps03
import Derived.Test.YtcmicdcikechkaaGreatKeeps26
set_option linter.all false
namespace Go.Proofs.YtcmicdcikechkaaGreat
open Go.RowKit Go.H
set_option maxHeartbeats 2000000
set_option maxRecDepth 100000
section
theorem zet {w : World} {m : Nat} {es : Array MapEntry} {k : Nat} (h : w.heap[m]? = some (.map es k)) : (callFunc 97 #[.iface 74 (.map (some m))]).run Tryz.prog w = .ok (.value (.iface 74 (.map (some w.heap.size)))) (w.alloc (.map es k)) := by
 have e : Extern.MapsClone.clone #[.iface 74 (.map (some m))] = (getObj m >>= fun o => match o with
  | .map entries clock => (newObj (.map entries clock) >>= fun n => pure (.iface 74 (.map (some n))))
  | _ => stuck "maps.clone: a map expected") := rfl
 rw [run_callFunc_extern (e := Extern.MapsClone.clone) Tryz.func97 (by kernel_rfl) rfl (by kernel_rfl) (by kernel_rfl), e]
 simp [Go.H.run_getObj_map h, Result.andThen, go_sem]
@[go_sem] theorem zeu (v : Value) (w : World) : (Instr.typeAssert (.iface 74 v) 20 74 false).run Tryz.prog w = .ok v w := by kernel_rfl
theorem zev {w : World} {m : Nat} {L : List (Int × Value)} (h : MapIs w m L) :
 Calls Tryz.prog 64 #[.map (some m)] w fun e w' => e = .returned (.map (some w.heap.size)) ∧ MapIs w' w.heap.size L ∧ Fr C0 w w' := by
 obtain ⟨es, k, hb, he⟩ := h
 have hx := zet hb
 have hq : ∀ w_, (binOp .eql 74 (.map (some m)) (.map none)).run Tryz.prog w_ = .ok (.bool false) w_ := fun w_ => by kernel_rfl
 clear hb
 go_enter Tryz.func64, Tryz.ntmps64
 go_wp2
 go_ret
 exact ⟨rfl, ⟨es, k, heap_alloc_new _ _, he⟩, (Fr.refl C0 w).alloc _⟩
theorem zew {c : Nat → Nat} {r rn rm : Nat} {w : World} {tp st lm km : Nat} {nr lr gv ov : Value} {Z : TSt} {k : Nat} {sn : List Value} (ho : Owners r rn rm) (h : TreeIn c r rn rm w tp st lm km nr lr gv ov Z k sn) (hk : k ≤ 3) (hsn : ∀ u ∈ sn, u.oneCell' = true) :
 Calls Tryz.prog 29 #[.pointer (some ⟨tp, 0, none⟩)] w fun e w' => ∃ sp, e = .returned (.tuple #[.pointer (some ⟨sp, 0, none⟩), .int .i64 0]) ∧ Fr (fun b => c b = r ∨ c b = rm) w w' ∧ ∃ pm ov' c', Ag w.heap.size c c' ∧ TreeIn c' r rn rm w' tp st lm km nr lr gv ov' Z (k + 1) (sn ++ [.pointer (some ⟨sp, 0, none⟩)]) ∧ w'.heap[sp]? = some (.cells #[.pointer (some ⟨tp, 0, none⟩), lr, .map (some pm), .bool false] 130 (0, 0)) ∧ c' sp = rm := by
 have HD := zhd (z9x h.hd)
 have t4 : w.cell? ⟨tp, 4, none⟩ = some lr := z2e h.blk 4 rfl
 have t7 : w.cell? ⟨tp, 7, none⟩ = some (.map (some lm)) := z2e h.blk 7 rfl
 have t9 : w.cell? ⟨tp, 9, none⟩ = some ov := z2e h.blk 9 rfl
 have HM := zhd (fun (w_ : World) (hf : Fr C0 w w_) => zev (h.live.fr hf (fun h => h)))
 have HL : Hid (lr = .nilIface ∨ ∃ tx y, lr = .iface tx y) := zhd (by
  have := h.last
  cases hz : Z.last with
  | none => rw [hz] at this; exact .inl this
  | some p => rw [hz] at this; exact .inr this.1.iface)
 obtain ⟨A, cp, rfl, -⟩ := z0o h.orow
 have hkc : ¬ (4 : Int) ≤ (k : Int) := by omega
 have HH := zhd h
 have HO := zhd ho
 have HSN := zhd hsn
 have HK := zhd hk
 clear h ho hsn
 go_enter Tryz.func29, Tryz.ntmps29
 go_wp2_with fail
 refine HD.out.mono ?_
 rintro e w1 ⟨rfl, rfl⟩
 go_wp2_with fail
 rcases HL.out with rfl | ⟨tx, y, rfl⟩
 · skip
   refine z1r (Fr C0 w) [] (by kernel_rfl) ?_
   have hSw0 : (Fr C0 w) _ := (Fr.refl C0 w).drew.drew
   refine tk 0 hSw0 ?_
   refine tk 1 hSw0 ?_
   refine tk 2 hSw0 ?_
   refine tk 3 hSw0 ?_
   refine tk 4 hSw0 ?_
   refine tk 5 hSw0 ?_ (hy := by intro w_ hS_; have b4 := hS_.cell0 t4; have b7 := hS_.cell0 t7; first | (go_simp; done) | (go_simp; with_reducible rfl))
   refine tk 6 hSw0 ?_
   refine tk 7 hSw0 ?_
   refine tk 8 hSw0 ?_
   refine tk 9 hSw0 ?_ (hy := by intro w_ hS_; have b4 := hS_.cell0 t4; have b7 := hS_.cell0 t7; first | (go_simp; done) | (go_simp; with_reducible rfl))
   refine one_ 10 rfl (fun K hK => ?_)
   go_simp
   refine (HM.out _ (Fr.refl C0 w).drew.drew).mono ?_
   rintro e w2 ⟨rfl, m2, f2⟩
   simp only []
   have F2 := zhd ((Fr.refl C0 w).drew.drew.trans0 f2)
   have M2 := zhd m2
   have hs2 := f2.size
   clear f2 m2
   refine hK.out _ _ ?kS1 (fun hSw1 => ?kR1)
   case kS1 => exact F2.out
   clear hK K
   try simp only [Act.put, zs1, zs2, zs3]
   refine tk 11 hSw1 ?_
   refine one_ 12 rfl (fun K hK => ?_)
   go_simp
   refine hK.out _ _ ?kS2 (fun hSw2 => ?kR2)
   case kS2 => exact F2.out.alloc _
   clear hK K
   try simp only [Act.put, zs1, zs2, zs3]
   refine tk 13 hSw2 ?_
   refine z1q (by kernel_rfl) ?_ _
   have hS := heap_alloc_new w2 (.cells #[.pointer (some ⟨tp, 0, none⟩), .nilIface, .map (some w.heap.size), .bool false] 130)
   have F3 := zhd (F2.out.alloc (.cells #[.pointer (some ⟨tp, 0, none⟩), .nilIface, .map (some w.heap.size), .bool false] 130))
   have M3 := zhd (M2.out.fr ((Fr.refl C0 w2).alloc (.cells #[.pointer (some ⟨tp, 0, none⟩), .nilIface, .map (some w.heap.size), .bool false] 130)) (fun h => h))
   have hsw : (w2.alloc (.cells #[.pointer (some ⟨tp, 0, none⟩), .nilIface, .map (some w.heap.size), .bool false] 130)).heap.size = w2.heap.size + 1 := by simp
   have hM2l : w.heap.size < w2.heap.size := M2.out.lt
   have HSW := zhd hsw
   clear F2 M2 hsw
   generalize w2.alloc (.cells #[.pointer (some ⟨tp, 0, none⟩), .nilIface, .map (some w.heap.size), .bool false] 130) = w3 at *
   have HSP := zhd hS
   have hsp : ∃ sp, sp = w2.heap.size := ⟨_, rfl⟩
   have f3r := F3.out.alloc (.cells #[.pointer (some ⟨w2.heap.size, 0, none⟩)] 57)
   have HOW := zhd (z0m HH.out.orow f3r (fun _ _ h => h))
   have hB4 := (Fr.refl C0 w3).alloc (.cells #[.pointer (some ⟨w2.heap.size, 0, none⟩)] 57)
   have k9 := f3r.cell0 t9
   have hbt := f3r.blk HH.out.blk (fun h => h)
   have hne : ∀ b, (Value.slice A k cp).ownBlock = some b → b ≠ tp := fun b e h2 => by
    obtain ⟨cur, h3⟩ := z4s HH.out.orow e
    rw [h2, HH.out.blk] at h3
    simp [TreeCells] at h3
   have hntp : ¬ (Value.slice A k cp).ownBlock = some tp := fun e => hne tp e rfl
   have HNE := zhd hne
   have HBT := zhd hbt
   have F3R := zhd f3r
   have HB4 := zhd hB4
   have t9' := F3.out.cell0 t9
   have hs3 := F3.out.size
   clear hS f3r hB4 hbt hne hsp
   go_wp2_with (at_builtin; go_must (refine z0l z2o rfl _ _ rfl (v := .slice A k cp) (xv := .slice (some ⟨w3.heap.size, 0, none⟩) 1 1) rfl rfl (B := 0) HOW.out (Row.ofBlock (F := fun _ => True) (heap_alloc_new _ _) trivial (by unfold maxLen; omega) rfl) (by simp [Value.oneCell']) (by unfold maxLen; omega) (by omega) (Nat.zero_le _) ?_); intro v5 w5 o5 f5 k5 nil5; have k9' := f5.cell k9 hntp; have z9 := z2c 9 (f5.blk HBT.out hntp); obtain ⟨A5, c5, rfl, -⟩ := z0o o5)
   go_ret2
   have hsw2 := HSW.out
   have hbt5 := f5.blk HBT.out hntp
   have F5 : Fr (fun b => (Value.slice A k cp).ownBlock = some b) w w5 := (F3R.out.mono (fun _ _ h => h.elim)).trans f5 (fun _ _ h => h)
   have gs := (Fr.refl (fun b => b = tp) w5).setCell (p := ⟨tp, 9, none⟩) (.inr rfl) (.slice A5 (k + 1) c5)
   have htl := (Array.getElem?_eq_some_iff.1 HH.out.blk).1
   have hsz4 : (w3.alloc (.cells #[.pointer (some ⟨w2.heap.size, 0, none⟩)] 57)).heap.size = w3.heap.size + 1 := by simp
   have hs5 := f5.size
   obtain ⟨c', hcs, hcm, hco, hag, hcl⟩ : ∃ c' : Nat → Nat, c' w2.heap.size = rm ∧ c' w.heap.size = rm ∧ (∀ b, (Value.slice A5 (k + 1) c5).ownBlock = some b → c' b = rm) ∧ Ag w.heap.size c c' ∧ Cl (w5.setCell ⟨tp, 9, none⟩ (.slice A5 (k + 1) c5)) c' := by
    refine ⟨setc (fun b => if b = w2.heap.size ∨ b = w.heap.size then rm else c b) (Value.slice A5 (k + 1) c5).ownBlock rm, ?_, ?_, fun b hb => by simp [setc, hb], fun b hb => ?_, fun b hb => ?_⟩
    · unfold setc; split
      · rfl
      · simp
    · unfold setc; split
      · rfl
      · simp
    · unfold setc; split
      · rename_i e
        rcases k5 b e with h | h
        · exact (HH.out.oo b h).symm
        · omega
      · simp only []; rw [if_neg (by omega)]
    · have := gs.size
      unfold setc; split
      · rename_i e; have := (o5.lt b e).2; omega
      · simp only []; rw [if_neg (by omega)]; exact HH.out.cl b (by omega)
   have hrm : ∀ b, (Value.slice A k cp).ownBlock = some b → c' b = rm ∧ b < w.heap.size := fun b e => ⟨(hag b (HH.out.orow.lt b e).2).trans (HH.out.oo b e), (HH.out.orow.lt b e).2⟩
   have hct : c' tp = r := (hag tp htl).trans HH.out.hd.own
   have hb6 := z2d (i := 9) hbt5 (.slice A5 (k + 1) c5)
   have hap : Apart c' r w5 [tp] := fun b hb => by
    simp at hb; subst hb
    exact ⟨hct, _, _, _, hbt5, by decide, by decide, by decide⟩
   have hnl : ∀ x L, MapIs w x L → ¬ (Value.slice A k cp).ownBlock = some x := fun x L hx e => by
    obtain ⟨cur, h4⟩ := z4s HH.out.orow e
    obtain ⟨es, kk, h5, _⟩ := hx
    rw [h5] at h4; injection h4 with h4; cases h4
   have hntp2 : ∀ b, c b = rm → ¬ b = tp := fun b e h => HO.out.mr (e.symm.trans (by rw [h]; exact HH.out.hd.own))
   have hS5 : w5.heap[w2.heap.size]? = some (.cells #[.pointer (some ⟨tp, 0, none⟩), .nilIface, .map (some w.heap.size), .bool false] 130 (0, 0)) := f5.blk (HB4.out.blk HSP.out (fun h => h)) (fun e => by have := (hrm _ e).2; have := hM2l; omega)
   refine ⟨w2.heap.size, rfl, (F5.mono (fun b _ e => .inr (HH.out.oo b e))).trans gs (fun b _ e => by rw [e]; exact .inl HH.out.hd.own), w.heap.size, .slice A5 (k + 1) c5, c', hag, ⟨⟨z2e hb6 0 rfl, ((HH.out.hd.store.ag hag).fr F5 (fun b e h => HO.out.mr (by rw [← (hrm b e).1]; exact h)) (fun b e h => HO.out.m0 (by rw [← (hrm b e).1]; exact h))).apart HO.out.r0 hap (gs.mono fun b _ e => by rw [e]; simp), HH.out.hd.alive, hct⟩, hcl, hb6, z0m (z0m HH.out.gr F5 (fun b e h => HO.out.mr ((HH.out.oo b h).symm.trans (HH.out.go b e)))) gs (fun b e h => by
    obtain ⟨cur, h3⟩ := z4s HH.out.gr e
    rw [h, HH.out.blk] at h3
    simp [TreeCells] at h3), fun b e => (hag b (HH.out.gr.lt b e).2).trans (HH.out.go b e), z0m (by simpa using o5) gs (fun b e h => HO.out.mr (by rw [← hco b e, h]; exact hct)), hco, (HH.out.live.fr F5 (hnl lm _ HH.out.live)).fr gs (hntp2 lm HH.out.lmo), (hag _ HH.out.live.lt).trans HH.out.lmo, (HH.out.kept.fr F5 (hnl km _ HH.out.kept)).fr gs (hntp2 km HH.out.kmo), (hag _ HH.out.kept.lt).trans HH.out.kmo, HH.out.lk, ((HH.out.now.ag hag).fr F5 (fun b e h => HO.out.nm (by rw [← (hrm b e).1]; exact h.symm)) (fun b e h => HO.out.m0 (by rw [← (hrm b e).1]; exact h))).fr gs (fun b e h => HO.out.nr (by rw [← h, e]; exact hct)) (fun b e h => HO.out.r0 (by rw [← h, e]; exact hct.symm)), RootAt.pageW HH.out.bk.lp HH.out.last, HH.out.bk⟩, gs.blk hS5 (fun e => by omega), hcs⟩
 · skip
   refine z1r (Fr C0 w) [] (by kernel_rfl) ?_
   have hSw0 : (Fr C0 w) _ := (Fr.refl C0 w).drew.drew
   refine tk 0 hSw0 ?_
   refine tk 1 hSw0 ?_
   refine tk 2 hSw0 ?_
   refine tk 3 hSw0 ?_
   refine tk 4 hSw0 ?_
   refine tk 5 hSw0 ?_ (hy := by intro w_ hS_; have b4 := hS_.cell0 t4; have b7 := hS_.cell0 t7; first | (go_simp; done) | (go_simp; with_reducible rfl))
   refine tk 6 hSw0 ?_
   refine tk 7 hSw0 ?_
   refine tk 8 hSw0 ?_
   refine tk 9 hSw0 ?_ (hy := by intro w_ hS_; have b4 := hS_.cell0 t4; have b7 := hS_.cell0 t7; first | (go_simp; done) | (go_simp; with_reducible rfl))
   refine one_ 10 rfl (fun K hK => ?_)
   go_simp
   refine (HM.out _ (Fr.refl C0 w).drew.drew).mono ?_
   rintro e w2 ⟨rfl, m2, f2⟩
   simp only []
   have F2 := zhd ((Fr.refl C0 w).drew.drew.trans0 f2)
   have M2 := zhd m2
   have hs2 := f2.size
   clear f2 m2
   refine hK.out _ _ ?kS3 (fun hSw1 => ?kR3)
   case kS3 => exact F2.out
   clear hK K
   try simp only [Act.put, zs1, zs2, zs3]
   refine tk 11 hSw1 ?_
   refine one_ 12 rfl (fun K hK => ?_)
   go_simp
   refine hK.out _ _ ?kS4 (fun hSw2 => ?kR4)
   case kS4 => exact F2.out.alloc _
   clear hK K
   try simp only [Act.put, zs1, zs2, zs3]
   refine tk 13 hSw2 ?_
   refine z1q (by kernel_rfl) ?_ _
   have hS := heap_alloc_new w2 (.cells #[.pointer (some ⟨tp, 0, none⟩), .iface tx y, .map (some w.heap.size), .bool false] 130)
   have F3 := zhd (F2.out.alloc (.cells #[.pointer (some ⟨tp, 0, none⟩), .iface tx y, .map (some w.heap.size), .bool false] 130))
   have M3 := zhd (M2.out.fr ((Fr.refl C0 w2).alloc (.cells #[.pointer (some ⟨tp, 0, none⟩), .iface tx y, .map (some w.heap.size), .bool false] 130)) (fun h => h))
   have hsw : (w2.alloc (.cells #[.pointer (some ⟨tp, 0, none⟩), .iface tx y, .map (some w.heap.size), .bool false] 130)).heap.size = w2.heap.size + 1 := by simp
   have hM2l : w.heap.size < w2.heap.size := M2.out.lt
   have HSW := zhd hsw
   clear F2 M2 hsw
   generalize w2.alloc (.cells #[.pointer (some ⟨tp, 0, none⟩), .iface tx y, .map (some w.heap.size), .bool false] 130) = w3 at *
   have HSP := zhd hS
   have hsp : ∃ sp, sp = w2.heap.size := ⟨_, rfl⟩
   have f3r := F3.out.alloc (.cells #[.pointer (some ⟨w2.heap.size, 0, none⟩)] 57)
   have HOW := zhd (z0m HH.out.orow f3r (fun _ _ h => h))
   have hB4 := (Fr.refl C0 w3).alloc (.cells #[.pointer (some ⟨w2.heap.size, 0, none⟩)] 57)
   have k9 := f3r.cell0 t9
   have hbt := f3r.blk HH.out.blk (fun h => h)
   have hne : ∀ b, (Value.slice A k cp).ownBlock = some b → b ≠ tp := fun b e h2 => by
    obtain ⟨cur, h3⟩ := z4s HH.out.orow e
    rw [h2, HH.out.blk] at h3
    simp [TreeCells] at h3
   have hntp : ¬ (Value.slice A k cp).ownBlock = some tp := fun e => hne tp e rfl
   have HNE := zhd hne
   have HBT := zhd hbt
   have F3R := zhd f3r
   have HB4 := zhd hB4
   have t9' := F3.out.cell0 t9
   have hs3 := F3.out.size
   clear hS f3r hB4 hbt hne hsp
   go_wp2_with (at_builtin; go_must (refine z0l z2o rfl _ _ rfl (v := .slice A k cp) (xv := .slice (some ⟨w3.heap.size, 0, none⟩) 1 1) rfl rfl (B := 0) HOW.out (Row.ofBlock (F := fun _ => True) (heap_alloc_new _ _) trivial (by unfold maxLen; omega) rfl) (by simp [Value.oneCell']) (by unfold maxLen; omega) (by omega) (Nat.zero_le _) ?_); intro v5 w5 o5 f5 k5 nil5; have k9' := f5.cell k9 hntp; have z9 := z2c 9 (f5.blk HBT.out hntp); obtain ⟨A5, c5, rfl, -⟩ := z0o o5)
   go_ret2
   have hsw2 := HSW.out
   have hbt5 := f5.blk HBT.out hntp
   have F5 : Fr (fun b => (Value.slice A k cp).ownBlock = some b) w w5 := (F3R.out.mono (fun _ _ h => h.elim)).trans f5 (fun _ _ h => h)
   have gs := (Fr.refl (fun b => b = tp) w5).setCell (p := ⟨tp, 9, none⟩) (.inr rfl) (.slice A5 (k + 1) c5)
   have htl := (Array.getElem?_eq_some_iff.1 HH.out.blk).1
   have hsz4 : (w3.alloc (.cells #[.pointer (some ⟨w2.heap.size, 0, none⟩)] 57)).heap.size = w3.heap.size + 1 := by simp
   have hs5 := f5.size
   obtain ⟨c', hcs, hcm, hco, hag, hcl⟩ : ∃ c' : Nat → Nat, c' w2.heap.size = rm ∧ c' w.heap.size = rm ∧ (∀ b, (Value.slice A5 (k + 1) c5).ownBlock = some b → c' b = rm) ∧ Ag w.heap.size c c' ∧ Cl (w5.setCell ⟨tp, 9, none⟩ (.slice A5 (k + 1) c5)) c' := by
    refine ⟨setc (fun b => if b = w2.heap.size ∨ b = w.heap.size then rm else c b) (Value.slice A5 (k + 1) c5).ownBlock rm, ?_, ?_, fun b hb => by simp [setc, hb], fun b hb => ?_, fun b hb => ?_⟩
    · unfold setc; split
      · rfl
      · simp
    · unfold setc; split
      · rfl
      · simp
    · unfold setc; split
      · rename_i e
        rcases k5 b e with h | h
        · exact (HH.out.oo b h).symm
        · omega
      · simp only []; rw [if_neg (by omega)]
    · have := gs.size
      unfold setc; split
      · rename_i e; have := (o5.lt b e).2; omega
      · simp only []; rw [if_neg (by omega)]; exact HH.out.cl b (by omega)
   have hrm : ∀ b, (Value.slice A k cp).ownBlock = some b → c' b = rm ∧ b < w.heap.size := fun b e => ⟨(hag b (HH.out.orow.lt b e).2).trans (HH.out.oo b e), (HH.out.orow.lt b e).2⟩
   have hct : c' tp = r := (hag tp htl).trans HH.out.hd.own
   have hb6 := z2d (i := 9) hbt5 (.slice A5 (k + 1) c5)
   have hap : Apart c' r w5 [tp] := fun b hb => by
    simp at hb; subst hb
    exact ⟨hct, _, _, _, hbt5, by decide, by decide, by decide⟩
   have hnl : ∀ x L, MapIs w x L → ¬ (Value.slice A k cp).ownBlock = some x := fun x L hx e => by
    obtain ⟨cur, h4⟩ := z4s HH.out.orow e
    obtain ⟨es, kk, h5, _⟩ := hx
    rw [h5] at h4; injection h4 with h4; cases h4
   have hntp2 : ∀ b, c b = rm → ¬ b = tp := fun b e h => HO.out.mr (e.symm.trans (by rw [h]; exact HH.out.hd.own))
   have hS5 : w5.heap[w2.heap.size]? = some (.cells #[.pointer (some ⟨tp, 0, none⟩), .iface tx y, .map (some w.heap.size), .bool false] 130 (0, 0)) := f5.blk (HB4.out.blk HSP.out (fun h => h)) (fun e => by have := (hrm _ e).2; have := hM2l; omega)
   refine ⟨w2.heap.size, rfl, (F5.mono (fun b _ e => .inr (HH.out.oo b e))).trans gs (fun b _ e => by rw [e]; exact .inl HH.out.hd.own), w.heap.size, .slice A5 (k + 1) c5, c', hag, ⟨⟨z2e hb6 0 rfl, ((HH.out.hd.store.ag hag).fr F5 (fun b e h => HO.out.mr (by rw [← (hrm b e).1]; exact h)) (fun b e h => HO.out.m0 (by rw [← (hrm b e).1]; exact h))).apart HO.out.r0 hap (gs.mono fun b _ e => by rw [e]; simp), HH.out.hd.alive, hct⟩, hcl, hb6, z0m (z0m HH.out.gr F5 (fun b e h => HO.out.mr ((HH.out.oo b h).symm.trans (HH.out.go b e)))) gs (fun b e h => by
    obtain ⟨cur, h3⟩ := z4s HH.out.gr e
    rw [h, HH.out.blk] at h3
    simp [TreeCells] at h3), fun b e => (hag b (HH.out.gr.lt b e).2).trans (HH.out.go b e), z0m (by simpa using o5) gs (fun b e h => HO.out.mr (by rw [← hco b e, h]; exact hct)), hco, (HH.out.live.fr F5 (hnl lm _ HH.out.live)).fr gs (hntp2 lm HH.out.lmo), (hag _ HH.out.live.lt).trans HH.out.lmo, (HH.out.kept.fr F5 (hnl km _ HH.out.kept)).fr gs (hntp2 km HH.out.kmo), (hag _ HH.out.kept.lt).trans HH.out.kmo, HH.out.lk, ((HH.out.now.ag hag).fr F5 (fun b e h => HO.out.nm (by rw [← (hrm b e).1]; exact h.symm)) (fun b e h => HO.out.m0 (by rw [← (hrm b e).1]; exact h))).fr gs (fun b e h => HO.out.nr (by rw [← h, e]; exact hct)) (fun b e h => HO.out.r0 (by rw [← h, e]; exact hct.symm)), RootAt.pageW HH.out.bk.lp HH.out.last, HH.out.bk⟩, gs.blk hS5 (fun e => by omega), hcs⟩
end
section
def PairsAt (F : Nat → Prop) (w : World) (v : Value) (L : List KV) : Prop := ∃ xs, Row F w v L.length 3 xs ∧ PairCells F w xs L
theorem PairsAt.fr {F C : Nat → Prop} {w w' : World} {v : Value} {L : List KV} (h : PairsAt F w v L) (hf : Fr C w w') (hd : ∀ b, F b → ¬ C b) : PairsAt F w' v L := by
 obtain ⟨xs, a, b⟩ := h
 exact ⟨xs, a.fr hf hd, b.fr hf hd⟩
theorem PairsAt.fr0 {F : Nat → Prop} {w w' : World} {v : Value} {L : List KV} (h : PairsAt F w v L) (hf : Fr C0 w w') : PairsAt F w' v L := h.fr hf (fun _ _ k => k)
theorem PairsAt.mono {F F' : Nat → Prop} {w : World} {v : Value} {L : List KV} (h : PairsAt F w v L) (hF : ∀ b, F b → b < w.heap.size → F' b) : PairsAt F' w v L := by
 obtain ⟨xs, a, b⟩ := h
 exact ⟨xs, a.mono hF, b.mono hF⟩
theorem PairsAt.form {F : Nat → Prop} {w : World} {v : Value} {L : List KV} (h : PairsAt F w v L) : ∃ A c, v = .slice A L.length c ∧ L.length ≤ c ∧ c ≤ maxLen := by
 obtain ⟨xs, a, b⟩ := h
 exact a.form
theorem PairsAt.at_ {F : Nat → Prop} {w : World} {A : Option Addr} {cp : Nat} {L : List KV} (h : PairsAt F w (.slice A L.length cp) L) (i : Nat) (hi : i < L.length) : ∃ g o kv vv, A = some ⟨g, o, none⟩ ∧ w.cell? ⟨g, o + i * 3, none⟩ = some (.int .i64 0) ∧ w.cell? ⟨g, o + i * 3 + 1, none⟩ = some kv ∧ w.cell? ⟨g, o + i * 3 + 2, none⟩ = some vv ∧ BytesAt F w kv L[i].1 ∧ BytesAt F w vv L[i].2 := by
 obtain ⟨xs, a, b⟩ := h
 obtain ⟨kv, vv, h0, h1, h2, h3, h4⟩ := b.at_ i hi
 obtain ⟨g, o, rfl, _, hc⟩ := a.cells h0
 exact ⟨g, o, kv, vv, rfl, hc _ _ h0, by rw [show o + i * 3 + 1 = o + (i * 3 + 1) by omega]; exact hc _ _ h1, by rw [show o + i * 3 + 2 = o + (i * 3 + 2) by omega]; exact hc _ _ h2, h3, h4⟩
theorem OutAt.pairs {pT B : Nat} {c : Nat → Nat} {q : Nat} {w : World} {v : Value} {L : List KV} {F : Nat → Prop} (h : OutAt pT B c q w v L) (hF : ∀ b, B ≤ b → (c b = 0 ∨ c b = q) → F b) : PairsAt F w v L := by
 obtain ⟨xs, a, b, e⟩ := h
 exact ⟨xs, Row.ofOwn a (fun b hb => hF b (e b hb).2 (.inr (e b hb).1)), b.mono fun b hb _ => hF b hb.2 (.inl hb.1)⟩
theorem zex {F : Nat → Prop} {w : World} {v : Value} {l : List UInt8} (h : BytesAt F w v l) (hn : l.length ≤ 100000) :
 Calls Tryz.prog 58 #[v] w fun e w' => ∃ v', e = .returned v' ∧ Fr C0 w w' ∧ w'.ownsRow w.heap.size 5 1 v' l.length (l.map bv) := by
 have HR := zhd (h.row.mono (F' := fun b => b < w.heap.size) (fun b _ h => h))
 obtain ⟨A, c, rfl, h1, h2⟩ := h.form
 clear h
 go_enter Tryz.func58, Tryz.ntmps58
 go_wp2_with (at_builtin; go_must (refine z0l z2i rfl _ _ rfl (v := .slice none 0 0) (xv := .slice A l.length c) rfl rfl (B := w.heap.size) (World.ownsRow_nil _ _ _ _) HR.out (z15 l) (by unfold maxLen; omega) (by omega) (by omega) ?_); intro v2 w2 o2 f2 k2 nil2)
 go_ret
 exact ⟨v2, rfl, f2.mono (fun b _ h => by simp [Value.ownBlock] at h), by simpa using o2⟩
theorem str2 {F G : Nat → Prop} {w : World} {u v : Value} {a b : List UInt8} (ha : BytesAt F w u a) (hb : BytesAt G w v b) : ∃ x y : ByteArray, Hid (∀ w_, Fr C0 w w_ → (convert 30 9 u).run Tryz.prog w_ = .ok (.string x) w_) ∧ Hid (∀ w_, Fr C0 w w_ → (convert 30 9 v).run Tryz.prog w_ = .ok (.string y) w_) ∧ Hid ((x.toList == y.toList) = decide (a = b)) :=
 ⟨_, _, zhd fun w_ hf => z2s (ha.fr0 hf), zhd fun w_ hf => z2s (hb.fr0 hf), zhd (by rw [ByteArray.toList_eq, ByteArray.toList_eq]; simp [z2x])⟩
theorem zey {F G : Nat → Prop} {w : World} {u v : Value} {a b : List KV} (ha : PairsAt F w u a) (hb : PairsAt G w v b) :
 Calls Tryz.prog 22 #[u, v] w fun e w' => e = .returned (.bool (decide (a = b))) ∧ Fr C0 w w' := by
 have HA := zhd ha
 have HB := zhd hb
 obtain ⟨A, ca, rfl, ha1, ha2⟩ := ha.form
 obtain ⟨B, cb, rfl, hb1, hb2⟩ := hb.form
 clear ha hb
 unfold maxLen at ha2 hb2
 by_cases hl : a.length = b.length
 · have HL := zhd hl
   have hl1 : ((a.length : Int) != (b.length : Int)) = false := by simp [bne, z2x, hl]
   clear hl
   go_enter Tryz.func22, Tryz.ntmps22
   go_wp2
   go_loopw [5] (fun i wr => ∃ k : Nat, k ≤ a.length ∧ i = .int .i64 (k : Int) ∧ Fr C0 w wr ∧ Hid (a.take k = b.take k)) (fun i _ => a.length - (intOf i).toNat)
   case atStart => exact ⟨0, Nat.zero_le _, rfl, Fr.refl _ _, zhd rfl⟩
   case round =>
    obtain ⟨k, hk, rfl, hf, hab⟩ := hrel
    have HF := zhd hf
    clear hf
    by_cases hlt : k < a.length
    · have hltb : k < b.length := by have := HL.out; omega
      obtain ⟨ga, oa, kva, vva, rfl, a0, a1, a2, a3, a4⟩ := (HA.out.fr0 HF.out).at_ k hlt
      obtain ⟨gb, ob, kvb, vvb, rfl, b0, b1, b2, b3, b4⟩ := (HB.out.fr0 HF.out).at_ k hltb
      obtain ⟨x1, y1, sa3, sb3, E1⟩ := str2 a3 b3
      obtain ⟨x2, y2, sa4, sb4, E2⟩ := str2 a4 b4
      obtain ⟨_, _, rfl, -⟩ := a3.form
      obtain ⟨_, _, rfl, -⟩ := a4.form
      obtain ⟨_, _, rfl, -⟩ := b3.form
      obtain ⟨_, _, rfl, -⟩ := b4.form
      clear a3 a4 b3 b4
      by_cases hk1 : a[k].1 = b[k].1
      · by_cases hk2 : a[k].2 = b[k].2
        · skip
          go_wp2_with fail
          have e1 := E1.out; rw [decide_eq_true hk1] at e1
          have HK1 := zhd hk1
          clear hk1
          have e2 := E2.out; rw [decide_eq_true hk2] at e2
          have HK2 := zhd hk2
          clear hk2
          refine z1r (Fr C0 wr) [] (by kernel_rfl) ?_
          have hSw0 : (Fr C0 wr) _ := (Fr.refl C0 wr).drew
          refine tk 0 hSw0 ?_
          refine tk 1 hSw0 ?_
          refine tk 2 hSw0 ?_
          refine tk 3 hSw0 ?_
          refine tk 4 hSw0 ?_ (hy := by intro w_ hS_; have c0 := hS_.cell0 a0; have c1 := hS_.cell0 a1; have c2 := hS_.cell0 a2; have d0 := hS_.cell0 b0; have d1 := hS_.cell0 b1; have d2 := hS_.cell0 b2; first | (go_simp; done) | (go_simp; with_reducible rfl))
          refine tk 5 hSw0 ?_
          refine tk 6 hSw0 ?_
          refine tk 7 hSw0 ?_
          refine tk 8 hSw0 ?_
          refine tk 9 hSw0 ?_ (hy := by intro w_ hS_; have c0 := hS_.cell0 a0; have c1 := hS_.cell0 a1; have c2 := hS_.cell0 a2; have d0 := hS_.cell0 b0; have d1 := hS_.cell0 b1; have d2 := hS_.cell0 b2; first | (go_simp; done) | (go_simp; with_reducible rfl))
          refine tk 10 hSw0 ?_
          refine tk 11 hSw0 ?_
          refine tk 12 hSw0 ?_
          refine tk 13 hSw0 ?_
          refine tk 14 hSw0 ?_
          refine tk 15 hSw0 ?_
          refine tk 16 hSw0 ?_ (hy := by intro w_ hS_; have c0 := hS_.cell0 a0; have c1 := hS_.cell0 a1; have c2 := hS_.cell0 a2; have d0 := hS_.cell0 b0; have d1 := hS_.cell0 b1; have d2 := hS_.cell0 b2; first | (go_simp; done) | (go_simp; with_reducible rfl))
          refine tk 17 hSw0 ?_ (hy := by intro w_ hS_; have k3 := sa3.out _ hS_; have k4 := sa4.out _ hS_; have l3 := sb3.out _ hS_; have l4 := sb4.out _ hS_; first | (go_simp; done) | (go_simp; with_reducible rfl))
          refine tk 18 hSw0 ?_
          refine tk 19 hSw0 ?_
          refine tk 20 hSw0 ?_
          refine tk 21 hSw0 ?_
          refine tk 22 hSw0 ?_ (hy := by intro w_ hS_; have c0 := hS_.cell0 a0; have c1 := hS_.cell0 a1; have c2 := hS_.cell0 a2; have d0 := hS_.cell0 b0; have d1 := hS_.cell0 b1; have d2 := hS_.cell0 b2; first | (go_simp; done) | (go_simp; with_reducible rfl))
          refine tk 23 hSw0 ?_ (hy := by intro w_ hS_; have k3 := sa3.out _ hS_; have k4 := sa4.out _ hS_; have l3 := sb3.out _ hS_; have l4 := sb4.out _ hS_; first | (go_simp; done) | (go_simp; with_reducible rfl))
          refine tk 24 hSw0 ?_
          refine tk 25 hSw0 ?_
          refine tk 26 hSw0 ?_
          refine tk 27 hSw0 ?_
          refine tk 28 hSw0 ?_
          refine tk 29 hSw0 ?_
          refine tk 30 hSw0 ?_
          refine tk 31 hSw0 ?_ (hy := by intro w_ hS_; have c0 := hS_.cell0 a0; have c1 := hS_.cell0 a1; have c2 := hS_.cell0 a2; have d0 := hS_.cell0 b0; have d1 := hS_.cell0 b1; have d2 := hS_.cell0 b2; first | (go_simp; done) | (go_simp; with_reducible rfl))
          refine tk 32 hSw0 ?_ (hy := by intro w_ hS_; have k3 := sa3.out _ hS_; have k4 := sa4.out _ hS_; have l3 := sb3.out _ hS_; have l4 := sb4.out _ hS_; first | (go_simp; done) | (go_simp; with_reducible rfl))
          refine tk 33 hSw0 ?_
          refine tk 34 hSw0 ?_
          refine tk 35 hSw0 ?_
          refine tk 36 hSw0 ?_
          refine tk 37 hSw0 ?_ (hy := by intro w_ hS_; have c0 := hS_.cell0 a0; have c1 := hS_.cell0 a1; have c2 := hS_.cell0 a2; have d0 := hS_.cell0 b0; have d1 := hS_.cell0 b1; have d2 := hS_.cell0 b2; first | (go_simp; done) | (go_simp; with_reducible rfl))
          refine tk 38 hSw0 ?_ (hy := by intro w_ hS_; have k3 := sa3.out _ hS_; have k4 := sa4.out _ hS_; have l3 := sb3.out _ hS_; have l4 := sb4.out _ hS_; first | (go_simp; done) | (go_simp; with_reducible rfl))
          refine tk 39 hSw0 ?_
          refine tk 40 hSw0 ?_
          refine z1q (by kernel_rfl) ?_ _
          go_wp2
          go_roundw
          case rel =>
           refine ⟨k + 1, by omega, by go_num, HF.out.drew, zhd ?_⟩
           rw [List.take_succ_eq_append_getElem hlt, List.take_succ_eq_append_getElem hltb, hab.out, show a[k] = b[k] from Prod.ext HK1.out HK2.out]
          case measure => simp [intOf]; omega
        · skip
          go_wp2_with fail
          have e1 := E1.out; rw [decide_eq_true hk1] at e1
          have HK1 := zhd hk1
          clear hk1
          have e2 := E2.out; rw [decide_eq_false hk2] at e2
          have HK2 := zhd hk2
          clear hk2
          refine z1r (Fr C0 wr) [] (by kernel_rfl) ?_
          have hSw0 : (Fr C0 wr) _ := (Fr.refl C0 wr).drew
          refine tk 0 hSw0 ?_
          refine tk 1 hSw0 ?_
          refine tk 2 hSw0 ?_
          refine tk 3 hSw0 ?_
          refine tk 4 hSw0 ?_ (hy := by intro w_ hS_; have c0 := hS_.cell0 a0; have c1 := hS_.cell0 a1; have c2 := hS_.cell0 a2; have d0 := hS_.cell0 b0; have d1 := hS_.cell0 b1; have d2 := hS_.cell0 b2; first | (go_simp; done) | (go_simp; with_reducible rfl))
          refine tk 5 hSw0 ?_
          refine tk 6 hSw0 ?_
          refine tk 7 hSw0 ?_
          refine tk 8 hSw0 ?_
          refine tk 9 hSw0 ?_ (hy := by intro w_ hS_; have c0 := hS_.cell0 a0; have c1 := hS_.cell0 a1; have c2 := hS_.cell0 a2; have d0 := hS_.cell0 b0; have d1 := hS_.cell0 b1; have d2 := hS_.cell0 b2; first | (go_simp; done) | (go_simp; with_reducible rfl))
          refine tk 10 hSw0 ?_
          refine tk 11 hSw0 ?_
          refine tk 12 hSw0 ?_
          refine tk 13 hSw0 ?_
          refine tk 14 hSw0 ?_
          refine tk 15 hSw0 ?_
          refine tk 16 hSw0 ?_ (hy := by intro w_ hS_; have c0 := hS_.cell0 a0; have c1 := hS_.cell0 a1; have c2 := hS_.cell0 a2; have d0 := hS_.cell0 b0; have d1 := hS_.cell0 b1; have d2 := hS_.cell0 b2; first | (go_simp; done) | (go_simp; with_reducible rfl))
          refine tk 17 hSw0 ?_ (hy := by intro w_ hS_; have k3 := sa3.out _ hS_; have k4 := sa4.out _ hS_; have l3 := sb3.out _ hS_; have l4 := sb4.out _ hS_; first | (go_simp; done) | (go_simp; with_reducible rfl))
          refine tk 18 hSw0 ?_
          refine tk 19 hSw0 ?_
          refine tk 20 hSw0 ?_
          refine tk 21 hSw0 ?_
          refine tk 22 hSw0 ?_ (hy := by intro w_ hS_; have c0 := hS_.cell0 a0; have c1 := hS_.cell0 a1; have c2 := hS_.cell0 a2; have d0 := hS_.cell0 b0; have d1 := hS_.cell0 b1; have d2 := hS_.cell0 b2; first | (go_simp; done) | (go_simp; with_reducible rfl))
          refine tk 23 hSw0 ?_ (hy := by intro w_ hS_; have k3 := sa3.out _ hS_; have k4 := sa4.out _ hS_; have l3 := sb3.out _ hS_; have l4 := sb4.out _ hS_; first | (go_simp; done) | (go_simp; with_reducible rfl))
          refine tk 24 hSw0 ?_
          refine tk 25 hSw0 ?_
          refine tk 26 hSw0 ?_
          refine tk 27 hSw0 ?_
          refine tk 28 hSw0 ?_
          refine tk 29 hSw0 ?_
          refine tk 30 hSw0 ?_
          refine tk 31 hSw0 ?_ (hy := by intro w_ hS_; have c0 := hS_.cell0 a0; have c1 := hS_.cell0 a1; have c2 := hS_.cell0 a2; have d0 := hS_.cell0 b0; have d1 := hS_.cell0 b1; have d2 := hS_.cell0 b2; first | (go_simp; done) | (go_simp; with_reducible rfl))
          refine tk 32 hSw0 ?_ (hy := by intro w_ hS_; have k3 := sa3.out _ hS_; have k4 := sa4.out _ hS_; have l3 := sb3.out _ hS_; have l4 := sb4.out _ hS_; first | (go_simp; done) | (go_simp; with_reducible rfl))
          refine tk 33 hSw0 ?_
          refine tk 34 hSw0 ?_
          refine tk 35 hSw0 ?_
          refine tk 36 hSw0 ?_
          refine tk 37 hSw0 ?_ (hy := by intro w_ hS_; have c0 := hS_.cell0 a0; have c1 := hS_.cell0 a1; have c2 := hS_.cell0 a2; have d0 := hS_.cell0 b0; have d1 := hS_.cell0 b1; have d2 := hS_.cell0 b2; first | (go_simp; done) | (go_simp; with_reducible rfl))
          refine tk 38 hSw0 ?_ (hy := by intro w_ hS_; have k3 := sa3.out _ hS_; have k4 := sa4.out _ hS_; have l3 := sb3.out _ hS_; have l4 := sb4.out _ hS_; first | (go_simp; done) | (go_simp; with_reducible rfl))
          refine tk 39 hSw0 ?_
          refine tk 40 hSw0 ?_
          refine z1q (by kernel_rfl) ?_ _
          go_wp2
          go_ret
          refine ⟨?_, HF.out.drew⟩
          rw [decide_eq_false (fun e => HK2.out (by simp only [e]))]
          rfl
      · skip
        go_wp2_with fail
        have e1 := E1.out; rw [decide_eq_false hk1] at e1
        have HK1 := zhd hk1
        clear hk1
        refine z1r (Fr C0 wr) [] (by kernel_rfl) ?_
        have hSw0 : (Fr C0 wr) _ := (Fr.refl C0 wr).drew
        refine tk 0 hSw0 ?_
        refine tk 1 hSw0 ?_
        refine tk 2 hSw0 ?_
        refine tk 3 hSw0 ?_
        refine tk 4 hSw0 ?_ (hy := by intro w_ hS_; have c0 := hS_.cell0 a0; have c1 := hS_.cell0 a1; have c2 := hS_.cell0 a2; have d0 := hS_.cell0 b0; have d1 := hS_.cell0 b1; have d2 := hS_.cell0 b2; first | (go_simp; done) | (go_simp; with_reducible rfl))
        refine tk 5 hSw0 ?_
        refine tk 6 hSw0 ?_
        refine tk 7 hSw0 ?_
        refine tk 8 hSw0 ?_
        refine tk 9 hSw0 ?_ (hy := by intro w_ hS_; have c0 := hS_.cell0 a0; have c1 := hS_.cell0 a1; have c2 := hS_.cell0 a2; have d0 := hS_.cell0 b0; have d1 := hS_.cell0 b1; have d2 := hS_.cell0 b2; first | (go_simp; done) | (go_simp; with_reducible rfl))
        refine tk 10 hSw0 ?_
        refine tk 11 hSw0 ?_
        refine tk 12 hSw0 ?_
        refine tk 13 hSw0 ?_
        refine tk 14 hSw0 ?_
        refine tk 15 hSw0 ?_
        refine tk 16 hSw0 ?_ (hy := by intro w_ hS_; have c0 := hS_.cell0 a0; have c1 := hS_.cell0 a1; have c2 := hS_.cell0 a2; have d0 := hS_.cell0 b0; have d1 := hS_.cell0 b1; have d2 := hS_.cell0 b2; first | (go_simp; done) | (go_simp; with_reducible rfl))
        refine tk 17 hSw0 ?_ (hy := by intro w_ hS_; have k3 := sa3.out _ hS_; have k4 := sa4.out _ hS_; have l3 := sb3.out _ hS_; have l4 := sb4.out _ hS_; first | (go_simp; done) | (go_simp; with_reducible rfl))
        refine tk 18 hSw0 ?_
        refine tk 19 hSw0 ?_
        refine tk 20 hSw0 ?_
        refine tk 21 hSw0 ?_
        refine tk 22 hSw0 ?_ (hy := by intro w_ hS_; have c0 := hS_.cell0 a0; have c1 := hS_.cell0 a1; have c2 := hS_.cell0 a2; have d0 := hS_.cell0 b0; have d1 := hS_.cell0 b1; have d2 := hS_.cell0 b2; first | (go_simp; done) | (go_simp; with_reducible rfl))
        refine tk 23 hSw0 ?_ (hy := by intro w_ hS_; have k3 := sa3.out _ hS_; have k4 := sa4.out _ hS_; have l3 := sb3.out _ hS_; have l4 := sb4.out _ hS_; first | (go_simp; done) | (go_simp; with_reducible rfl))
        refine tk 24 hSw0 ?_
        refine tk 25 hSw0 ?_
        refine tk 26 hSw0 ?_
        refine tks 27 rfl hSw0 ?_
        try simp only [Act.put, zs1, zs2, zs3]
        refine tks 28 rfl hSw0 ?_
        try simp only [Act.put, zs1, zs2, zs3]
        refine tks 29 rfl hSw0 ?_
        try simp only [Act.put, zs1, zs2, zs3]
        refine tks 30 rfl hSw0 ?_
        try simp only [Act.put, zs1, zs2, zs3]
        refine tks 31 rfl hSw0 ?_
        try simp only [Act.put, zs1, zs2, zs3]
        refine tks 32 rfl hSw0 ?_
        try simp only [Act.put, zs1, zs2, zs3]
        refine tks 33 rfl hSw0 ?_
        try simp only [Act.put, zs1, zs2, zs3]
        refine tks 34 rfl hSw0 ?_
        try simp only [Act.put, zs1, zs2, zs3]
        refine tks 35 rfl hSw0 ?_
        try simp only [Act.put, zs1, zs2, zs3]
        refine tks 36 rfl hSw0 ?_
        try simp only [Act.put, zs1, zs2, zs3]
        refine tks 37 rfl hSw0 ?_
        try simp only [Act.put, zs1, zs2, zs3]
        refine tks 38 rfl hSw0 ?_
        try simp only [Act.put, zs1, zs2, zs3]
        refine tks 39 rfl hSw0 ?_
        try simp only [Act.put, zs1, zs2, zs3]
        refine tk 40 hSw0 ?_
        refine z1q (by kernel_rfl) ?_ _
        go_wp2
        go_ret
        refine ⟨?_, HF.out.drew⟩
        rw [decide_eq_false (fun e => HK1.out (by simp only [e]))]
        rfl
    · obtain rfl : k = a.length := by omega
      have hbt : b.take a.length = b := List.take_of_length_le (by have := HL.out; omega)
      have hat : a.take a.length = a := List.take_of_length_le (Nat.le_refl _)
      have hE : a = b := by have := hab.out; rw [hat, hbt] at this; exact this
      have HE := zhd hE
      clear hbt hat hE hab
      go_wp2
      go_ret
      refine ⟨?_, HF.out⟩
      rw [decide_eq_true HE.out]
      rfl
 · go_enter Tryz.func22, Tryz.ntmps22
   go_wp2
   go_ret
   refine ⟨?_, Fr.refl _ _⟩
   rw [decide_eq_false (fun e => hl (by rw [e]))]
   rfl
end
end Go.Proofs.YtcmicdcikechkaaGreat
