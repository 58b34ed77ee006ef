import Derived.Test.YtcmicdcikechkaaFull08
import Derived.Laws.IdiomRangeMap
set_option linter.all false
section
namespace Go.Proofs.Ytcmicdcikechkaa
open Go.RowKit Go.H
set_option maxHeartbeats 1000000
set_option maxRecDepth 100000
def leftIn (w : World) (sm r : Nat) : Nat := match w.heap[sm]? with
  | some (.map es _) => (leftOf es (w.iterSeen r)).size
  | _ => 0
theorem leftIn_alloc {w : World} {sm r : Nat} {es : Array MapEntry} {clock a b : Nat} {s : Array Nat} {q : Option Nat} (h : w.heap[sm]? = some (.map es clock)) (hr : w.heap.size = r) : leftIn (w.alloc (.mapIter q a s b)) sm r = (leftOf es s).size := by
  have hl := (Array.getElem?_eq_some_iff.1 h).1
  unfold leftIn
  rw [Below.heap_alloc _ _ _ hl, h, ← hr]
  simp
theorem keep_nil (L : List (Int × Int)) : L = L.filter (fun p => decide (p.1 ∉ ([] : List Int))) := (List.filter_eq_self.2 (by simp)).symm
theorem keep_eq {L : List (Int × Int)} {del : List Int} (hD : ∀ p ∈ L, p.1 ∈ del → p.2 = 2) (hN : ∀ p ∈ L.filter (fun p => decide (p.1 ∉ del)), p.2 ≠ 2) : L.filter (fun p => decide (p.1 ∉ del)) = L.filter (fun p => decide (p.2 ≠ 2)) := by
  refine List.filter_congr fun p hp => ?_
  by_cases h : p.1 ∈ del
  · simp [h, hD p hp h]
  · have := hN p (List.mem_filter.2 ⟨hp, by simp [h]⟩)
    simp [h, this]
theorem ent_val {es : Array MapEntry} {cl : Nat} {L : List (Int × Int)} (h : Ent es cl (vmap L)) {p : Int × Int} (hp : p ∈ L) : ∃ e ∈ es.toList, e.key = .int .i64 p.1 ∧ e.val = .int .i64 p.2 := by
  have h1 : kvp (p.1, .int .i64 p.2) ∈ (vmap L).map kvp := List.mem_map.2 ⟨_, List.mem_map.2 ⟨p, hp, rfl⟩, rfl⟩
  rw [← h.kv] at h1
  obtain ⟨e, he, h2⟩ := List.mem_map.1 h1
  simp only [kvp, Prod.mk.injEq] at h2
  exact ⟨e, he, h2.1, h2.2⟩
theorem ent_of {es : Array MapEntry} {cl : Nat} {L : List (Int × Int)} (h : Ent es cl (vmap L)) {e : MapEntry} (he : e ∈ es.toList) : ∃ p ∈ L, e.key = .int .i64 p.1 ∧ e.val = .int .i64 p.2 := by
  have h1 : (e.key, e.val) ∈ es.toList.map (fun e => (e.key, e.val)) := List.mem_map.2 ⟨e, he, rfl⟩
  rw [h.kv] at h1
  obtain ⟨q, hq, h2⟩ := List.mem_map.1 h1
  obtain ⟨p, hp, rfl⟩ := List.mem_map.1 hq
  simp only [kvp, Prod.mk.injEq] at h2
  exact ⟨p, hp, h2.1.symm, h2.2.symm⟩
theorem left_lt {es es2 : Array MapEntry} {seen : Array Nat} {e : MapEntry} (hsub : es2.toList.Sublist es.toList) (he : e ∈ es.toList) (hns : seen.contains e.born = false) : (leftOf es2 (seen.push e.born)).size < (leftOf es seen).size := by
  have h1 : ∀ (a : Array MapEntry) (s : Array Nat), (leftOf a s).size = (a.toList.filter fun e => !s.contains e.born).length := fun a s => by
    unfold leftOf; rw [← Array.length_toList, Array.toList_filter]
  rw [h1, h1]
  refine Nat.lt_of_le_of_lt ((hsub.filter _).length_le) (filter_lt _ _ ?_ e (by simpa using hns) (by simp) _ he)
  intro x hx
  simp at hx ⊢
  exact hx.1
theorem born_eq {es : Array MapEntry} (hn : (es.toList.map (·.born)).Nodup) {x e : MapEntry} (hx : x ∈ es.toList) (he : e ∈ es.toList) (h : x.born = e.born) : x = e := by
  have h1 := find_born x es.toList hn hx
  have h2 := find_born e es.toList hn he
  rw [h] at h1
  rw [h1] at h2
  exact Option.some.inj h2
theorem key_eq {p q : Int × Int} : ∀ {L : List (Int × Int)}, ((vmap L).map Prod.fst).Nodup → p ∈ L → q ∈ L → q.1 = p.1 → q = p
  | x :: L, hn, hp, hq, h => by
    have hn2 : x.1 ∉ (vmap L).map Prod.fst ∧ ((vmap L).map Prod.fst).Nodup := List.nodup_cons.1 hn
    have hmem : ∀ y ∈ L, y.1 ∈ (vmap L).map Prod.fst := fun y hy => List.mem_map.2 ⟨(y.1, .int .i64 y.2), List.mem_map.2 ⟨y, hy, rfl⟩, rfl⟩
    rcases List.mem_cons.1 hp with rfl | hp2 <;> rcases List.mem_cons.1 hq with rfl | hq2
    · rfl
    · exact absurd (h ▸ hmem q hq2) hn2.1
    · exact absurd (h ▸ hmem p hp2) hn2.1
    · exact key_eq hn2.2 hp2 hq2 h
theorem findIx_mem {k : Int} : ∀ {L : List (Int × Value)} {v : Value} (i : Nat), (k, v) ∈ L → ∃ j u, findIx k L i = some (j, u)
  | [], _, _, h => by simp at h
  | p :: L, v, i, h => by
    by_cases hk : p.1 = k
    · exact ⟨i, p.2, by simp [findIx, hk]⟩
    · simp only [findIx, if_neg hk]
      rcases List.mem_cons.1 h with h | h
      · exact absurd (by rw [← h]) hk
      · exact findIx_mem (i + 1) h
theorem run_delete_at {P : Program} {w : World} {T K E m ty i c : Nat} {u : Value} {es : Array MapEntry} {L : List (Int × Value)} {ats : Array TypeId} (ha : ats[0]? = some T) (hT : P.underlying T = some (.map K E)) (hK : P.underlying K = some (.int .i64))
    (hm : w.heap[m]? = some (.map es c)) (he : Ent es c L) (k : Int) (hfi : findIx k L 0 = some (i, u)) :
    (Builtin.delete_ ats ty #[.map (some m), .int .i64 k]).run P w = .ok (.tuple #[]) (World.putObj w m (.map (es.eraseIdxIfInBounds i) c)) := by
  have hf := findNow_int k es.toList L 0 he.kv
  have hc : ∀ b, (Instr.checkKey b 10000 K (.int .i64 k)).run P w = .ok () w := by
    intro b; unfold Instr.checkKey; simp [run_underlying hK]
  simp [Builtin.delete_, ha, run_underlying hT, Go.H.run_getObj_map hm, hc, Instr.findKey, run_underlying hK, hf, hfi, Go.H.run_setObj_map _ hm]
theorem putObj_alloc {w : World} {m : Nat} {o o2 : Obj} (h : m < w.heap.size) : World.putObj (w.alloc o2) m o = (World.putObj w m o).alloc o2 := by
  unfold World.putObj World.alloc
  congr 1
  apply Array.ext_getElem?
  intro j
  simp only [Array.getElem?_setIfInBounds, Array.getElem?_push, Array.size_push, Array.size_setIfInBounds]
  by_cases h1 : m = j
  · subst h1
    simp [h, show ¬ m = w.heap.size by omega, show m < w.heap.size + 1 by omega]
  · simp [h1]
theorem settle_calls {c : Nat → Nat} {r : Nat} {w : World} {st sm d m : Nat} {ov : Value} {S : SSt} {D : DSt} (h : StoreIn c r w st sm d m ov S D) (hr : r ≠ 0) :
    Calls Try.prog 72 #[.pointer (some ⟨st, 0, none⟩)] w fun e w' => e = .returned (.tuple #[]) ∧ StoreIn c r w' st sm d m ov { S with state := S.state.filter (fun p => decide (p.2 ≠ 2)) } D ∧ Fr (fun b => b = sm) w w' := by
  have HS := Lib.hid h
  have hst := h.st_sm
  have c1 := blk_cell h.blk 1 rfl
  obtain ⟨es, clock, hb, he⟩ := h.map
  have hrg := run_range_map (P := Try.prog) w 66 3 3 sm es clock Try.underlying66 hb
  clear h
  have HE := Lib.hid he
  have HB := Lib.hid hb
  clear he hb
  go_enter Try.func72, Try.ntmps72
  go_wp2
  go_loopw [2, 3] (fun _ _ wr => ∃ (w1 : World) (es1 : Array MapEntry) (seen : Array Nat) (del : List Int), wr = w1.alloc (.mapIter (some sm) clock seen clock) ∧ w1.heap.size = w.heap.size ∧ Hid (Fr (fun b => b = sm) w w1) ∧ Hid (w1.heap[sm]? = some (.map es1 clock)) ∧ Hid (∀ x ∈ es1.toList, x.born < clock) ∧ Hid (Ent es1 clock (vmap (S.state.filter (fun p => decide (p.1 ∉ del))))) ∧ Hid (∀ p ∈ S.state, p.1 ∈ del → p.2 = 2) ∧ Hid (∀ x ∈ es1.toList, seen.contains x.born = true → x.val ≠ .int .i64 2)) (fun _ _ wr => leftIn wr sm w.heap.size)
  case atStart =>
    exact ⟨w, es, #[], [], rfl, rfl, Lib.hid (Fr.refl _ _), HB, Lib.hid HE.out.clock, Lib.hid (by rw [← keep_nil]; exact HE.out), Lib.hid (by simp), Lib.hid (by simp)⟩
  case round =>
    obtain ⟨w1, es1, seen, del, rfl, hsz, HF, HM, HO, HEn, HD, HN⟩ := hrel
    have hlt : sm < w1.heap.size := (Array.getElem?_eq_some_iff.1 HM.out).1
    rcases run_next_map (P := Try.prog) w1 0 sm clock clock seen es1 clock HM.out HO.out (Nat.le_refl _) with ⟨h0, hrun⟩ | ⟨e, hel, w2, hal, hrun⟩
    · rw [hsz] at hrun
      have H0 := Lib.hid h0
      clear h0
      go_wp2
      go_end0
      have hall : ∀ x ∈ es1.toList, seen.contains x.born = true := by
        intro x hx
        cases hc : seen.contains x.born with
        | true => rfl
        | false =>
          have h1 : x ∈ leftOf es1 seen := by unfold leftOf; rw [Array.mem_filter]; exact ⟨by simpa using hx, by simpa using hc⟩
          have := Array.size_pos_of_mem h1
          have := H0.out
          omega
      have hk := keep_eq HD.out (fun p hp => by
        obtain ⟨e, he, _, hv⟩ := ent_val HEn.out hp
        intro h2
        rw [h2] at hv
        exact HN.out e he (hall e he) hv)
      have hn : MapIs (w1.alloc (.mapIter (some sm) clock seen clock)) sm (vmap (S.state.filter (fun p => decide (p.2 ≠ 2)))) := by
        rw [← hk]
        exact ⟨es1, clock, by rw [Below.heap_alloc _ _ _ hlt]; exact HM.out, HEn.out⟩
      exact ⟨rfl, HS.out.setState hr hn (HF.out.alloc _), HF.out.alloc _⟩
    · obtain ⟨he1, hns⟩ : e ∈ es1.toList ∧ seen.contains e.born = false := by
        unfold leftOf at hel
        simpa using hel
      obtain ⟨p, hp, hk, hv⟩ := ent_of HEn.out he1
      have hM2 : w2.heap[sm]? = some (.map es1 clock) := by rw [hal.1]; exact HM.out
      have hs2 : w2.heap.size = w.heap.size := by rw [hal.1]; exact hsz
      have hent := run_entry_map (P := Try.prog) w2 sm clock seen es1 clock e hM2 he1 HEn.out.born
      rw [hsz] at hrun
      rw [hs2] at hent
      rw [hk, hv] at hrun hent
      have F2 : Fr (fun b => b = sm) w w2 := ⟨hal.2.1.trans HF.out.os, hal.2.2.trans HF.out.output, by rw [hs2]; exact Nat.le_refl _, fun j hj hn => by rw [hal.1]; exact HF.out.block j hj hn⟩
      have cw := (F2.alloc (.mapIter (some sm) clock (seen.push e.born) clock)).cell c1 hst
      have hlt2 : sm < w2.heap.size := by rw [hs2, ← hsz]; exact hlt
      have hB : (w2.alloc (.mapIter (some sm) clock (seen.push e.born) clock)).heap[sm]? = some (.map es1 clock) := by rw [Below.heap_alloc _ _ _ hlt2]; exact hM2
      have hx : ∀ x ∈ es1.toList, (seen.push e.born).contains x.born = true → seen.contains x.born = true ∨ x = e := by
        intro x hx hc
        simp at hc
        rcases hc with hc | hc
        · exact .inl (by simpa using hc)
        · exact .inr (born_eq HEn.out.born hx he1 hc)
      have hp0 := (List.mem_filter.1 hp).1
      by_cases h2 : p.2 = 2
      · rw [h2] at hrun hent
        obtain ⟨j, u, hfi⟩ := findIx_mem (k := p.1) (L := vmap (S.state.filter (fun p => decide (p.1 ∉ del)))) (v := .int .i64 p.2) 0 (List.mem_map.2 ⟨p, hp, rfl⟩)
        have hdl := run_delete_at (P := Try.prog) (ats := #[66, 3]) (ty := 0) (T := 66) (K := 3) (E := 3) rfl Try.underlying66 Try.underlying3 hB HEn.out p.1 hfi
        rw [putObj_alloc hlt2] at hdl
        have hE2 := HEn.out.del p.1 hfi
        have hsub : (es1.eraseIdxIfInBounds j).toList.Sublist es1.toList := by
          rw [Array.eraseIdxIfInBounds]
          split
          · rw [Array.toList_eraseIdx]; exact List.eraseIdx_sublist _ _
          · exact List.Sublist.refl _
        have hml : mdel (vmap (S.state.filter (fun p => decide (p.1 ∉ del)))) p.1 = vmap (S.state.filter (fun q => decide (q.1 ∉ p.1 :: del))) := by
          simp only [mdel, vmap, List.filter_map, List.filter_filter]
          congr 1
          refine List.filter_congr fun q _ => ?_
          simp
        rw [hml] at hE2
        go_wp2
        refine ⟨⟨World.putObj w2 sm (.map (es1.eraseIdxIfInBounds j) clock), es1.eraseIdxIfInBounds j, seen.push e.born, p.1 :: del, rfl, by rw [putObj_size]; exact hs2, Lib.hid (F2.putObj (.inr rfl) _), Lib.hid (putObj_same hlt2), Lib.hid (fun x hx1 => HO.out x (hsub.mem hx1)), Lib.hid hE2, Lib.hid fun q hq hd => ?_, Lib.hid fun x hx1 hc => ?_⟩, ?_⟩
        · rcases List.mem_cons.1 hd with h | h
          · by_cases hqd : q.1 ∈ del
            · exact HD.out q hq hqd
            · have hqm : q ∈ S.state.filter (fun p => decide (p.1 ∉ del)) := List.mem_filter.2 ⟨hq, by simpa using hqd⟩
              rw [key_eq HEn.out.keys hp hqm h]; exact h2
          · exact HD.out q hq h
        · rcases hx x (hsub.mem hx1) hc with h | rfl
          · exact HN.out x (hsub.mem hx1) h
          · obtain ⟨q, hq, hqk, _⟩ := ent_of hE2 hx1
            have := (List.mem_filter.1 hq).2
            rw [hk] at hqk
            injection hqk with _ hqk
            simp [hqk] at this
        · rw [leftIn_alloc (putObj_same hlt2) (by rw [putObj_size]; exact hs2), leftIn_alloc HM.out hsz]
          exact left_lt hsub he1 hns
      · go_wp2
        refine ⟨⟨w2, es1, seen.push e.born, del, rfl, hs2, Lib.hid F2, Lib.hid hM2, HO, HEn, HD, Lib.hid fun x hx1 hc => ?_⟩, ?_⟩
        · rcases hx x hx1 hc with h | rfl
          · exact HN.out x hx1 h
          · rw [hv]; simpa using h2
        · rw [leftIn_alloc hM2 hs2, leftIn_alloc HM.out hsz]
          exact left_lt (List.Sublist.refl _) he1 hns
end Go.Proofs.Ytcmicdcikechkaa
end
section
namespace Go.Proofs.Ytcmicdcikechkaa
open Go.RowKit Go.H
set_option maxHeartbeats 1000000
set_option maxRecDepth 100000
theorem sflush_calls {c : Nat → Nat} {r : Nat} {w : World} {st sm d m : Nat} {ov : Value} {S : SSt} {D : DSt} (h : StoreIn c r w st sm d m ov S D) (hd : D.down = false) (ha : D.after < 1) (hr : r ≠ 0) (hc : Cl w c) :
    Calls Try.prog 69 #[.pointer (some ⟨d, 0, none⟩)] w fun e w' => e = .returned (.int .i64 0) ∧ StoreIn c r w' st sm d m (.slice none 0 0) S D.flush ∧ Fr (fun b => b = m ∨ b = d) w w' := by
  refine (flush_calls h.disk hd ha (fun b hb => hc b hb) (fun k => hr (h.om.symm.trans k)) (fun k => hr (h.od.symm.trans k)) h.d_m h.ov_m h.ov_d).mono ?_
  rintro e w' ⟨rfl, D2, f⟩
  refine ⟨rfl, ⟨f.blk h.blk (fun k => k.elim h.st_m h.st_d), h.map.fr f (fun k => k.elim h.ne (fun e => h.d_sm e.symm)), D2, h.ost, h.osm, h.od, h.om, fun b hb => by simp [Value.ownBlock] at hb, h.ne⟩, f⟩
theorem swrite_calls {c : Nat → Nat} {r : Nat} {w : World} {st sm d m k : Nat} {ov v : Value} {S : SSt} {D : DSt} {b : Bs} (h : StoreIn c r w st sm d m ov S D) (hd : D.down = false) (ha : D.after < 1) (hr : r ≠ 0) (hc : Cl w c) (hk : k < D.blocks) (hv : BytesAt (Dt c) w v b) (hb : b.length ≤ 8192) (ho : D.opn.length < 100000) :
    Calls Try.prog 70 #[.pointer (some ⟨d, 0, none⟩), .int .i64 (k : Int), v] w fun e w' => e = .returned (.int .i64 0) ∧ ∃ c' ov', Ag w.heap.size c c' ∧ Cl w' c' ∧ StoreIn c' r w' st sm d m ov' S (D.write k b) ∧ Fr (fun b => c b = r ∧ b ≠ st ∧ b ≠ sm ∧ b ≠ m) w w' := by
  have hs := h
  refine (write_calls (hs.disk.mono (F' := fun b => c b = 0 ∧ b < w.heap.size) fun b hb hl => ⟨hb, hl⟩) hd ha hk (hv.mono fun b hb hl => ⟨hb, hl⟩) hb ho (fun k => hr (hs.om.symm.trans k.1)) (fun k => hr (hs.od.symm.trans k.1)) hs.d_m hs.ov_m hs.ov_d (fun b hb k => hr ((hs.oov b hb).symm.trans k.1))).mono ?_
  rintro e w3 ⟨rfl, ov', ho', D3, f3⟩
  have hag := setc_ag (c := c) (r := r) hs.oov ho'
  obtain ⟨xs3, o3, o3'⟩ := D3.opn
  have e3 := f3.size
  have hst := (Array.getElem?_eq_some_iff.1 hs.blk).1
  have hsm := hs.map.lt
  have hmlt : m < w.heap.size := by obtain ⟨M, k1, _⟩ := hs.disk.kept; exact k1.lt
  have hdlt : d < w.heap.size := (Array.getElem?_eq_some_iff.1 hs.disk.blk).1
  refine ⟨rfl, setc c ov'.ownBlock r, ov', hag, ?_, ⟨?_, ?_, ?_, ?_, ?_, ?_, ?_, ?_, hs.ne⟩, ?_⟩
  · intro b hb
    unfold setc
    split
    · rename_i e; have := (o3.lt b e).2; omega
    · exact hc b (by omega)
  · exact f3.blk hs.blk (fun k => k.elim (fun k => hs.ov_st _ k rfl) hs.st_d)
  · exact hs.map.fr f3 (fun k => k.elim (fun k => hs.ov_sm _ k rfl) (fun e => hs.d_sm e.symm))
  · refine D3.mono (fun b hb _ => ?_)
    unfold Dt setc
    split
    · rename_i e
      rcases hb with hb | hb
      · rcases ho' b e with h | h
        · exact absurd (hb.1.symm.trans (hs.oov b h)) (fun h => hr h.symm)
        · omega
      · exact absurd e hb.2
    · rcases hb with hb | hb
      · exact hb.1
      · exact hc b (by omega)
  · exact (hag st hst).trans hs.ost
  · exact (hag sm hsm).trans hs.osm
  · exact (hag d hdlt).trans hs.od
  · exact (hag m hmlt).trans hs.om
  · intro b hb; simp [setc, hb]
  · exact f3.mono (fun b _ k => k.elim (fun k => ⟨hs.oov b k, hs.ov_st b k, hs.ov_sm b k, hs.ov_m b k⟩) (fun e => by subst e; exact ⟨hs.od, fun e => hs.st_d e.symm, hs.d_sm, hs.d_m⟩))
end Go.Proofs.Ytcmicdcikechkaa
end
section
namespace Go.Proofs.Ytcmicdcikechkaa
open Go.RowKit Go.H
set_option maxHeartbeats 1000000
set_option maxRecDepth 100000
theorem flush_down (D : DSt) : D.flush.down = D.down := by unfold DSt.flush; rw [layAll_rest]
theorem flush_after (D : DSt) : D.flush.after = D.after := by unfold DSt.flush; rw [layAll_rest]
theorem flush_blocks (D : DSt) : D.flush.blocks = D.blocks := by unfold DSt.flush; rw [layAll_rest]
theorem flush_life (D : DSt) : D.flush.life = D.life := by unfold DSt.flush; rw [layAll_rest]
def dcommit (D : DSt) (num root : Nat) : DSt := (D.flush.write (num % 2) (headB num root)).flush
def SSt.commit (S : SSt) (root : Nat) : SSt := { S with num := S.num + 1, root := root, state := S.state.filter (fun p => decide (p.2 ≠ 2)) }
theorem geq_u64 (a b : Int) (w : World) : (binOp .geq 87 (.int .u64 a) (.int .u64 b)).run Try.prog w = .ok (.bool (decide (b ≤ a))) w := by
  have h := Try.underlying87
  simp [go_sem, binOp, h]
theorem scommit_go {c : Nat → Nat} {r : Nat} {w : World} {st root : Nat} {R : Int} {S : SSt} {D : DSt} (h : StoreOk c r w st S D) (hal : Alive S D) (hr : r ≠ 0) (hc : Cl w c) (ho : D.opn.length < 100000) (hR : R = (root : Int)) (hroot : R = 0 ∨ ¬ R = 0 ∧ (aget R S.state).getD 0 = 1) (hrb : root < 4611686018427387904) (hn : S.num < 4611686018427387904) :
    Calls Try.prog 42 #[.pointer (some ⟨st, 0, none⟩), .int .i64 R] w fun e w' => e = .returned (.int .i64 0) ∧ ∃ c', Ag w.heap.size c c' ∧ Cl w' c' ∧ StoreOk c' r w' st (S.commit root) (dcommit D (S.num + 1) root) ∧ Fr (fun b => c b = r) w w' := by
  obtain ⟨sm, d, m, ov, h⟩ := h
  have H2 := Lib.hid (dead_calls h)
  rw [hal.dead] at H2
  have h2 := h.fr0 (Fr.refl C0 w).drew
  have HS := Lib.hid h2
  have c1 := blk_cell h2.blk 1 rfl
  have c2 := blk_cell h2.blk 2 rfl
  have c40 := blk_cell h2.blk 4 rfl
  have hl := lookup_ints h2.map R
  have HN : Hid (∃ N : Int, N = (S.num : Int)) := Lib.hid ⟨_, rfl⟩
  obtain ⟨N, hN⟩ := HN.out
  have c4 : w.drew.cell? ⟨st, 4, none⟩ = some (.int .u64 N) := by rw [hN]; exact c40
  clear c40
  have hge : (binOp .geq 87 (.int .u64 N) (.int .u64 4611686018427387904)).run Try.prog w.drew = .ok (.bool false) w.drew := by
    rw [geq_u64, decide_eq_false (by omega)]
  have hw1 : IntKind.u64.wrap (N + 1) = N + 1 := by rw [wraps_u64 _ (by omega) (by omega)]
  have hnn : N < 4611686018427387904 := by omega
  have hnn0 : 0 ≤ N := by omega
  have hN1 : ((S.num + 1 : Nat) : Int) = N + 1 := by omega
  have HH := Lib.hid (fun (w_ : World) => headbytes_calls w_ (S.num + 1) root (by omega) hrb)
  rw [hN1, ← hR] at HH
  have HFl := Lib.hid (sflush_calls (HS.out.fr0 ((Fr.refl C0 _).alloc (.cells #[.int .u64 (N + 1), .int .i64 R] 89))) hal.down hal.after hr (hc.mono (by simp)))
  have HN1 := Lib.hid hN
  clear hN hN1 HN
  have ca := ((Fr.refl C0 w).alloc (.cells #[.int .u64 (N + 1), .int .i64 R] 89)).drew.cell0 (show w.cell? ⟨st, 2, none⟩ = _ from c2)
  have HRR := Lib.hid hR
  have HC := Lib.hid hc
  have HR0 := Lib.hid hr
  have HB := Lib.hid hrb
  have HO := Lib.hid ho
  have HAL := Lib.hid hal
  clear h h2 hR hn hc hr hrb ho hal
  go_enter Try.func42, Try.ntmps42
  go_wp2_with fail
  refine H2.out.mono ?_
  rintro e w1 ⟨rfl, rfl⟩
  clear H2
  have hcase : Hid ((R != 0) = false ∨ (R != 0) = true ∧ (aget R S.state).getD 0 = 1) := by
    rcases hroot with h0 | ⟨h0, h1⟩
    · exact Lib.hid (.inl (by simp [bne, beq_dec, h0]))
    · exact Lib.hid (.inr ⟨by simp [bne, beq_dec, h0], h1⟩)
  clear hroot
  have hlt0 := HS.out.disk.blk
  have hdl : d < w.heap.size := (Array.getElem?_eq_some_iff.1 hlt0).1
  have hml : m < w.heap.size := by obtain ⟨M, k1, _⟩ := HS.out.disk.kept; exact k1.lt
  clear hlt0
  rcases hcase.out with h0b | ⟨h0b, h1⟩
  · skip
    go_wp2_with fail
    refine HFl.out.mono ?_
    rintro e w2 ⟨rfl, HS2', f2⟩
    have HS2 := Lib.hid HS2'
    have hb2 : w2.heap[w.heap.size]? = some (.cells #[.int .u64 (N + 1), .int .i64 R] 89 (0, 0)) := f2.blk (heap_alloc_new w.drew _) (fun k => k.elim (fun k => absurd (show w.heap.size = m from k) (by omega)) (fun k => absurd (show w.heap.size = d from k) (by omega)))
    have HB2 := Lib.hid hb2
    have k0 := blk_cell hb2 0 rfl
    have k1 := blk_cell hb2 1 rfl
    have k2 := blk_cell HS2'.blk 2 rfl
    have HF2 := Lib.hid (((Fr.refl (fun b => b = m ∨ b = d) w).drew.alloc (.cells #[.int .u64 (N + 1), .int .i64 R] 89)).trans f2 (fun _ _ h => h))
    have hm2 : (N + 1).tmod 2 = (((S.num + 1) % 2 : Nat) : Int) := by rw [Int.tmod_eq_emod_of_nonneg (by omega)]; have := HN1.out; omega
    have hi2 : IntKind.i64.wrap (((S.num + 1) % 2 : Nat) : Int) = (((S.num + 1) % 2 : Nat) : Int) := by rw [IntWalk.i64_in _ (by omega)]
    have HI := Lib.hid (show IntKind.i64.wrap ((N + 1).tmod 2) = (((S.num + 1) % 2 : Nat) : Int) by rw [hm2, hi2])
    clear hm2 hi2
    clear HS2' f2 hb2 HFl ca c1 c2 c4 hl hge
    have hcz : c w.heap.size = 0 := HC.out _ (Nat.le_refl _)
    have hc0 : ¬ (c w.heap.size = r ∧ w.heap.size ≠ st) := fun k => HR0.out (k.1.symm.trans hcz)
    have hs2 := HF2.out.size
    go_wp2_with fail
    have hnn9 := Lib.hid hnn
    clear hnn
    generalize decide ((4611686018427387904 : Int) ≤ N) = B
    refine wp_region_L (Fr (fun b => c b = r ∧ b ≠ st) w2) [] (by kernel_rfl) ?_
    have hSw0 : (Fr (fun b => c b = r ∧ b ≠ st) w2) _ := (Fr.refl (fun b => c b = r ∧ b ≠ st) w2).drew
    refine tk 0 ⟨(some 48), (.move (.tmp 0)), 63, "page.go:237", #[], none⟩ hSw0 ?_
    refine tk 1 ⟨(some 49), (.nilCheck (.tmp 48)), 0, "page.go:237", #[⟨0, .data⟩], none⟩ hSw0 ?_
    refine tk 2 ⟨(some 50), (.fieldAddr 91 (.tmp 49) 1), 0, "page.go:237", #[⟨1, .data⟩], none⟩ hSw0 ?_
    refine tk 3 ⟨(some 51), (.load 24 (.tmp 50)), 24, "page.go:237", #[⟨2, .data⟩], none⟩ hSw0 ?_ (by intro w_ hS_; have j0 := hS_.cell k0 hc0; have j1 := hS_.cell k1 hc0; have j2 := hS_.cell k2 (fun h => h.2 rfl); first | (go_simp; done) | (go_simp; with_reducible rfl))
    refine tk 4 ⟨(some 52), (.fieldAddr 89 (.tmp 5) 0), 0, "page.go:237", #[], none⟩ hSw0 ?_
    refine tk 5 ⟨(some 53), (.load 87 (.tmp 52)), 87, "page.go:237", #[⟨4, .data⟩], none⟩ hSw0 ?_ (by intro w_ hS_; have j0 := hS_.cell k0 hc0; have j1 := hS_.cell k1 hc0; have j2 := hS_.cell k2 (fun h => h.2 rfl); first | (go_simp; done) | (go_simp; with_reducible rfl))
    refine tk 6 ⟨(some 54), (.binOp .rem 87 (.tmp 53) (.const (.int .u64 2)) 87), 87, "page.go:237", #[⟨5, .data⟩], none⟩ hSw0 ?_
    refine tk 7 ⟨(some 55), (.convert 87 3 (.tmp 54)), 3, "page.go:237", #[⟨6, .data⟩], none⟩ hSw0 ?_
    refine tk 8 ⟨(some 56), (.load 89 (.tmp 5)), 89, "page.go:237", #[], none⟩ hSw0 ?_ (by intro w_ hS_; have j0 := hS_.cell k0 hc0; have j1 := hS_.cell k1 hc0; have j2 := hS_.cell k2 (fun h => h.2 rfl); first | (go_simp; done) | (go_simp; with_reducible rfl))
    refine one_ 9 ⟨(some 57), (.call ⟨(.value (.func 71)), #[(.tmp 56)], #[89]⟩), 23, "page.go:237", #[⟨8, .data⟩], none⟩ (fun K hK => ?_)
    go_simp
    refine (HH.out _).mono ?_
    rintro e w3 ⟨v3, rfl, f3, o3⟩
    simp only []
    have HF3 := Lib.hid ((show Fr _ w2 _ from hSw0).trans0 f3)
    have HF30 := Lib.hid ((Fr.refl C0 w2).drew.trans0 f3)
    have HV3 : Hid (BytesAt (Dt c) w3 v3 (headB (S.num + 1) root)) := Lib.hid (BytesAt.ofOwn (by rw [headB_length]; exact o3) (fun b hb => by have := (o3.lt b hb).1; exact HC.out b (by have : w2.drew.heap.size = w2.heap.size := rfl; omega)))
    clear f3 o3
    refine hK.out _ _ ?kS1 (fun hSw1 => ?kR1)
    case kS1 => exact HF3.out
    clear hK K
    try simp only [Act.put, List.setIfInBounds_toArray, List.set_cons_zero, List.set_cons_succ]
    refine one_ 10 ⟨(some 58), (.call ⟨(.value (.func 70)), #[(.tmp 51), (.tmp 55), (.tmp 57)], #[24, 3, 23]⟩), 28, "page.go:237", #[⟨3, .data⟩, ⟨7, .data⟩, ⟨9, .data⟩, ⟨9, .chain⟩], none⟩ (fun K hK => ?_)
    go_simp
    rw [HI.out]
    have hs3 := HF30.out.size
    refine (swrite_calls (HS2.out.fr0 HF30.out) (by rw [flush_down]; exact HAL.out.down) (by rw [flush_after]; exact HAL.out.after) HR0.out (HC.out.mono (by omega)) (k := (S.num + 1) % 2) (by rw [flush_blocks, HAL.out.size]; omega) HV3.out (by rw [headB_length]; omega) (by simp [DSt.flush])).mono ?_
    rintro e w4 ⟨rfl, c4, ov4, ag4, cl4, s4, f4⟩
    simp only []
    have HA4 := Lib.hid ag4
    have HC4 := Lib.hid cl4
    have HS4 := Lib.hid s4
    have HF4 := Lib.hid (HF3.out.trans f4 (fun b _ h => ⟨h.1, h.2.1⟩))
    clear ag4 cl4 s4 f4
    refine hK.out _ _ ?kS2 (fun hSw2 => ?kR2)
    case kS2 => exact HF4.out
    clear hK K
    try simp only [Act.put, List.setIfInBounds_toArray, List.set_cons_zero, List.set_cons_succ]
    refine tk 11 ⟨(some 7), (.assign (.tmp 58)), 28, "page.go:237", #[⟨10, .data⟩, ⟨10, .chain⟩, ⟨0, .phase⟩, ⟨1, .phase⟩, ⟨2, .phase⟩, ⟨3, .phase⟩, ⟨4, .phase⟩, ⟨5, .phase⟩, ⟨6, .phase⟩, ⟨7, .phase⟩, ⟨8, .phase⟩, ⟨9, .phase⟩, ⟨10, .phase⟩], none⟩ hSw2 ?_
    refine wpAnyL_done (by kernel_rfl) ?_ _
    have cst := blk_cell HS4.out.blk 2 rfl
    have HFl2 := Lib.hid (sflush_calls HS4.out (show D.flush.down = false by rw [flush_down]; exact HAL.out.down) (show D.flush.after < 1 by rw [flush_after]; exact HAL.out.after) HR0.out HC4.out)
    go_wp2_with fail
    refine HFl2.out.mono ?_
    rintro e w5 ⟨rfl, HS5', f5⟩
    have HS5 := Lib.hid HS5'
    have F25 := Lib.hid (HF4.out.trans f5 (fun b hb h => h.elim (fun e => by subst e; exact ⟨HS.out.om, HS.out.st_m.symm⟩) (fun e => by subst e; exact ⟨HS.out.od, HS.out.st_d.symm⟩)))
    have f25sz := f5.size
    clear HFl2 cst HS5' f5
    have m0 := F25.out.cell k0 hc0
    have m1 := F25.out.cell k1 hc0
    have m4 := blk_cell HS5.out.blk 4 rfl
    have m5 := blk_cell HS5.out.blk 5 rfl
    have z4 := blk_free 4 HS5.out.blk
    have z5 := blk_free 5 HS5.out.blk
    have b6 := blk_set (i := 5) (blk_set (i := 4) HS5.out.blk (.int .u64 (N + 1))) (.int .i64 R)
    have F6 := Lib.hid (((Fr.refl (fun b => b = st) w5).setCell (p := ⟨st, 4, none⟩) (.inr rfl) (.int .u64 (N + 1))).setCell (p := ⟨st, 5, none⟩) (.inr rfl) (.int .i64 R))
    have hs5 := HS5.out
    have HS6 := Lib.hid (settle_calls (S := { S with num := S.num + 1, root := root }) ⟨by
        rw [show ((S.num + 1 : Nat) : Int) = N + 1 from by have := HN1.out; omega, ← HRR.out]; exact b6, hs5.map.fr F6.out hs5.st_sm.symm, hs5.disk.fr F6.out hs5.st_d.symm hs5.st_m.symm (fun b hb => by simp [Value.ownBlock] at hb) (fun b hb e => HR0.out (by subst e; exact hs5.ost.symm.trans hb)), hs5.ost, hs5.osm, hs5.od, hs5.om, hs5.oov, hs5.ne⟩ HR0.out)
    clear b6 hs5
    go_wp2_with fail
    refine HS6.out.mono ?_
    rintro e w7 ⟨rfl, s7, f7⟩
    have HS7 := Lib.hid s7
    have HF7 := Lib.hid f7
    clear s7 f7 m0 m1 m4 m5 z4 z5
    go_wp2
    go_ret
    have hs4 := HF4.out.size
    have hs7 := HF7.out.size
    have hs25 := F25.out.size
    have hs6 := F6.out.size
    have hcl := HC4.out.mono (show w4.heap.size ≤ w7.heap.size by have := f25sz; omega)
    refine ⟨rfl, c4, fun b hb => HA4.out b (by omega), hcl, ⟨sm, d, m, _, HS7.out⟩, ?_⟩
    refine (HF2.out.mono (fun b _ h => ?_)).trans (((F25.out.mono (fun b _ h => h.1)).trans (F6.out.mono (C2 := fun b => c b = r) (fun b _ h => ?_)) (fun _ _ h => h)).trans (HF7.out.mono (C2 := fun b => c b = r) (fun b _ h => ?_)) (fun _ _ h => h)) (fun _ _ h => h)
    · rcases h with h | h
      · rw [h]; exact HS.out.om
      · rw [h]; exact HS.out.od
    · rw [h]; exact HS.out.ost
    · rw [h]; exact HS.out.osm
  · rw [h1] at hl
    go_wp2_with fail
    refine HFl.out.mono ?_
    rintro e w2 ⟨rfl, HS2', f2⟩
    have HS2 := Lib.hid HS2'
    have hb2 : w2.heap[w.heap.size]? = some (.cells #[.int .u64 (N + 1), .int .i64 R] 89 (0, 0)) := f2.blk (heap_alloc_new w.drew _) (fun k => k.elim (fun k => absurd (show w.heap.size = m from k) (by omega)) (fun k => absurd (show w.heap.size = d from k) (by omega)))
    have HB2 := Lib.hid hb2
    have k0 := blk_cell hb2 0 rfl
    have k1 := blk_cell hb2 1 rfl
    have k2 := blk_cell HS2'.blk 2 rfl
    have HF2 := Lib.hid (((Fr.refl (fun b => b = m ∨ b = d) w).drew.alloc (.cells #[.int .u64 (N + 1), .int .i64 R] 89)).trans f2 (fun _ _ h => h))
    have hm2 : (N + 1).tmod 2 = (((S.num + 1) % 2 : Nat) : Int) := by rw [Int.tmod_eq_emod_of_nonneg (by omega)]; have := HN1.out; omega
    have hi2 : IntKind.i64.wrap (((S.num + 1) % 2 : Nat) : Int) = (((S.num + 1) % 2 : Nat) : Int) := by rw [IntWalk.i64_in _ (by omega)]
    have HI := Lib.hid (show IntKind.i64.wrap ((N + 1).tmod 2) = (((S.num + 1) % 2 : Nat) : Int) by rw [hm2, hi2])
    clear hm2 hi2
    clear HS2' f2 hb2 HFl ca c1 c2 c4 hl hge
    have hcz : c w.heap.size = 0 := HC.out _ (Nat.le_refl _)
    have hc0 : ¬ (c w.heap.size = r ∧ w.heap.size ≠ st) := fun k => HR0.out (k.1.symm.trans hcz)
    have hs2 := HF2.out.size
    go_wp2_with fail
    have hnn9 := Lib.hid hnn
    clear hnn
    generalize decide ((4611686018427387904 : Int) ≤ N) = B
    refine wp_region_L (Fr (fun b => c b = r ∧ b ≠ st) w2) [] (by kernel_rfl) ?_
    have hSw0 : (Fr (fun b => c b = r ∧ b ≠ st) w2) _ := (Fr.refl (fun b => c b = r ∧ b ≠ st) w2).drew
    refine tk 0 ⟨(some 48), (.move (.tmp 0)), 63, "page.go:237", #[], none⟩ hSw0 ?_
    refine tk 1 ⟨(some 49), (.nilCheck (.tmp 48)), 0, "page.go:237", #[⟨0, .data⟩], none⟩ hSw0 ?_
    refine tk 2 ⟨(some 50), (.fieldAddr 91 (.tmp 49) 1), 0, "page.go:237", #[⟨1, .data⟩], none⟩ hSw0 ?_
    refine tk 3 ⟨(some 51), (.load 24 (.tmp 50)), 24, "page.go:237", #[⟨2, .data⟩], none⟩ hSw0 ?_ (by intro w_ hS_; have j0 := hS_.cell k0 hc0; have j1 := hS_.cell k1 hc0; have j2 := hS_.cell k2 (fun h => h.2 rfl); first | (go_simp; done) | (go_simp; with_reducible rfl))
    refine tk 4 ⟨(some 52), (.fieldAddr 89 (.tmp 5) 0), 0, "page.go:237", #[], none⟩ hSw0 ?_
    refine tk 5 ⟨(some 53), (.load 87 (.tmp 52)), 87, "page.go:237", #[⟨4, .data⟩], none⟩ hSw0 ?_ (by intro w_ hS_; have j0 := hS_.cell k0 hc0; have j1 := hS_.cell k1 hc0; have j2 := hS_.cell k2 (fun h => h.2 rfl); first | (go_simp; done) | (go_simp; with_reducible rfl))
    refine tk 6 ⟨(some 54), (.binOp .rem 87 (.tmp 53) (.const (.int .u64 2)) 87), 87, "page.go:237", #[⟨5, .data⟩], none⟩ hSw0 ?_
    refine tk 7 ⟨(some 55), (.convert 87 3 (.tmp 54)), 3, "page.go:237", #[⟨6, .data⟩], none⟩ hSw0 ?_
    refine tk 8 ⟨(some 56), (.load 89 (.tmp 5)), 89, "page.go:237", #[], none⟩ hSw0 ?_ (by intro w_ hS_; have j0 := hS_.cell k0 hc0; have j1 := hS_.cell k1 hc0; have j2 := hS_.cell k2 (fun h => h.2 rfl); first | (go_simp; done) | (go_simp; with_reducible rfl))
    refine one_ 9 ⟨(some 57), (.call ⟨(.value (.func 71)), #[(.tmp 56)], #[89]⟩), 23, "page.go:237", #[⟨8, .data⟩], none⟩ (fun K hK => ?_)
    go_simp
    refine (HH.out _).mono ?_
    rintro e w3 ⟨v3, rfl, f3, o3⟩
    simp only []
    have HF3 := Lib.hid ((show Fr _ w2 _ from hSw0).trans0 f3)
    have HF30 := Lib.hid ((Fr.refl C0 w2).drew.trans0 f3)
    have HV3 : Hid (BytesAt (Dt c) w3 v3 (headB (S.num + 1) root)) := Lib.hid (BytesAt.ofOwn (by rw [headB_length]; exact o3) (fun b hb => by have := (o3.lt b hb).1; exact HC.out b (by have : w2.drew.heap.size = w2.heap.size := rfl; omega)))
    clear f3 o3
    refine hK.out _ _ ?kS3 (fun hSw1 => ?kR3)
    case kS3 => exact HF3.out
    clear hK K
    try simp only [Act.put, List.setIfInBounds_toArray, List.set_cons_zero, List.set_cons_succ]
    refine one_ 10 ⟨(some 58), (.call ⟨(.value (.func 70)), #[(.tmp 51), (.tmp 55), (.tmp 57)], #[24, 3, 23]⟩), 28, "page.go:237", #[⟨3, .data⟩, ⟨7, .data⟩, ⟨9, .data⟩, ⟨9, .chain⟩], none⟩ (fun K hK => ?_)
    go_simp
    rw [HI.out]
    have hs3 := HF30.out.size
    refine (swrite_calls (HS2.out.fr0 HF30.out) (by rw [flush_down]; exact HAL.out.down) (by rw [flush_after]; exact HAL.out.after) HR0.out (HC.out.mono (by omega)) (k := (S.num + 1) % 2) (by rw [flush_blocks, HAL.out.size]; omega) HV3.out (by rw [headB_length]; omega) (by simp [DSt.flush])).mono ?_
    rintro e w4 ⟨rfl, c4, ov4, ag4, cl4, s4, f4⟩
    simp only []
    have HA4 := Lib.hid ag4
    have HC4 := Lib.hid cl4
    have HS4 := Lib.hid s4
    have HF4 := Lib.hid (HF3.out.trans f4 (fun b _ h => ⟨h.1, h.2.1⟩))
    clear ag4 cl4 s4 f4
    refine hK.out _ _ ?kS4 (fun hSw2 => ?kR4)
    case kS4 => exact HF4.out
    clear hK K
    try simp only [Act.put, List.setIfInBounds_toArray, List.set_cons_zero, List.set_cons_succ]
    refine tk 11 ⟨(some 7), (.assign (.tmp 58)), 28, "page.go:237", #[⟨10, .data⟩, ⟨10, .chain⟩, ⟨0, .phase⟩, ⟨1, .phase⟩, ⟨2, .phase⟩, ⟨3, .phase⟩, ⟨4, .phase⟩, ⟨5, .phase⟩, ⟨6, .phase⟩, ⟨7, .phase⟩, ⟨8, .phase⟩, ⟨9, .phase⟩, ⟨10, .phase⟩], none⟩ hSw2 ?_
    refine wpAnyL_done (by kernel_rfl) ?_ _
    have cst := blk_cell HS4.out.blk 2 rfl
    have HFl2 := Lib.hid (sflush_calls HS4.out (show D.flush.down = false by rw [flush_down]; exact HAL.out.down) (show D.flush.after < 1 by rw [flush_after]; exact HAL.out.after) HR0.out HC4.out)
    go_wp2_with fail
    refine HFl2.out.mono ?_
    rintro e w5 ⟨rfl, HS5', f5⟩
    have HS5 := Lib.hid HS5'
    have F25 := Lib.hid (HF4.out.trans f5 (fun b hb h => h.elim (fun e => by subst e; exact ⟨HS.out.om, HS.out.st_m.symm⟩) (fun e => by subst e; exact ⟨HS.out.od, HS.out.st_d.symm⟩)))
    have f25sz := f5.size
    clear HFl2 cst HS5' f5
    have m0 := F25.out.cell k0 hc0
    have m1 := F25.out.cell k1 hc0
    have m4 := blk_cell HS5.out.blk 4 rfl
    have m5 := blk_cell HS5.out.blk 5 rfl
    have z4 := blk_free 4 HS5.out.blk
    have z5 := blk_free 5 HS5.out.blk
    have b6 := blk_set (i := 5) (blk_set (i := 4) HS5.out.blk (.int .u64 (N + 1))) (.int .i64 R)
    have F6 := Lib.hid (((Fr.refl (fun b => b = st) w5).setCell (p := ⟨st, 4, none⟩) (.inr rfl) (.int .u64 (N + 1))).setCell (p := ⟨st, 5, none⟩) (.inr rfl) (.int .i64 R))
    have hs5 := HS5.out
    have HS6 := Lib.hid (settle_calls (S := { S with num := S.num + 1, root := root }) ⟨by
        rw [show ((S.num + 1 : Nat) : Int) = N + 1 from by have := HN1.out; omega, ← HRR.out]; exact b6, hs5.map.fr F6.out hs5.st_sm.symm, hs5.disk.fr F6.out hs5.st_d.symm hs5.st_m.symm (fun b hb => by simp [Value.ownBlock] at hb) (fun b hb e => HR0.out (by subst e; exact hs5.ost.symm.trans hb)), hs5.ost, hs5.osm, hs5.od, hs5.om, hs5.oov, hs5.ne⟩ HR0.out)
    clear b6 hs5
    go_wp2_with fail
    refine HS6.out.mono ?_
    rintro e w7 ⟨rfl, s7, f7⟩
    have HS7 := Lib.hid s7
    have HF7 := Lib.hid f7
    clear s7 f7 m0 m1 m4 m5 z4 z5
    go_wp2
    go_ret
    have hs4 := HF4.out.size
    have hs7 := HF7.out.size
    have hs25 := F25.out.size
    have hs6 := F6.out.size
    have hcl := HC4.out.mono (show w4.heap.size ≤ w7.heap.size by have := f25sz; omega)
    refine ⟨rfl, c4, fun b hb => HA4.out b (by omega), hcl, ⟨sm, d, m, _, HS7.out⟩, ?_⟩
    refine (HF2.out.mono (fun b _ h => ?_)).trans (((F25.out.mono (fun b _ h => h.1)).trans (F6.out.mono (C2 := fun b => c b = r) (fun b _ h => ?_)) (fun _ _ h => h)).trans (HF7.out.mono (C2 := fun b => c b = r) (fun b _ h => ?_)) (fun _ _ h => h)) (fun _ _ h => h)
    · rcases h with h | h
      · rw [h]; exact HS.out.om
      · rw [h]; exact HS.out.od
    · rw [h]; exact HS.out.ost
    · rw [h]; exact HS.out.osm
end Go.Proofs.Ytcmicdcikechkaa
end
