import Derived.Test.YtcmicdcikechkaaGreatKeeps10
import Derived.Test.YtcmicdcikechkaaGreatKeeps03
import Derived.Test.YtcmicdcikechkaaGreatKeeps17
import Derived.Maps.RangeRun
set_option linter.all false
namespace Go.Proofs.YtcmicdcikechkaaGreat
open Go.RowKit Go.H
set_option maxHeartbeats 1000000
set_option maxRecDepth 100000
section
theorem zft {L : List Nat} {x : Nat} : x ∈ L ↔ ((x : Int), (1 : Int)) ∈ ones L := by
 unfold ones marks
 constructor
 · intro h; exact List.mem_map.2 ⟨x, by simpa using h, by simp⟩
 · intro h
   obtain ⟨a, h, e⟩ := List.mem_map.1 h
   injection e with e
   have : a = x := by omega
   rw [← this]; simpa using h
def leftAt (w : World) (lm r : Nat) : Nat := match w.heap[lm]? with
 | some (.map es _) => (leftOf es (w.iterSeen r)).size
 | _ => 0
theorem zfu {w : World} {lm r : Nat} {es : Array MapEntry} {clock a c0 : Nat} {q : Option Nat} {s : Array Nat} (h : w.heap[lm]? = some (.map es clock)) (hr : w.heap[r]? = some (.mapIter q a s c0)) : leftAt w lm r = (leftOf es s).size := by
 unfold leftAt World.iterSeen
 rw [h, hr]
theorem zfv {α β : Type} {f : α → β} {x y : α} : ∀ {l : List α}, (l.map f).Nodup → x ∈ l → y ∈ l → f x = f y → x = y
 | a :: l, hn, hx, hy, h => by
   have hn2 : f a ∉ l.map f ∧ (l.map f).Nodup := List.nodup_cons.1 hn
   rcases List.mem_cons.1 hx with rfl | hx2 <;> rcases List.mem_cons.1 hy with rfl | hy2
   · rfl
   · exact absurd (h ▸ List.mem_map_of_mem hy2) hn2.1
   · exact absurd (h ▸ List.mem_map_of_mem hx2) hn2.1
   · exact zfv hn2.2 hx2 hy2 h
theorem zfw {es : Array MapEntry} {cl : Nat} {L : List (Int × Value)} (h : Ent es cl L) {x y : MapEntry} (hx : x ∈ es.toList) (hy : y ∈ es.toList) (hk : x.key = y.key) : x = y := by
 have h1 : es.toList.map (·.key) = (L.map Prod.fst).map (Value.int .i64) := by
  have := congrArg (List.map Prod.fst) h.kv
  simp only [List.map_map] at this ⊢
  exact this
 refine zfv (f := (·.key)) ?_ hx hy hk
 rw [h1]
 have := h.keys
 exact List.Pairwise.map _ (fun a b hab e => hab (by injection e)) this
theorem zfx {w : World} {lm : Nat} {L : List Nat} (h : MapIs w lm (vmap (ones L))) (hlen : L.length ≤ 5000) :
 Calls Tryz.prog 63 #[.map (some lm)] w fun e w' => ∃ (v : Value) (K : List Nat), e = .returned v ∧ K.Nodup ∧ (∀ x, x ∈ K ↔ x ∈ L) ∧ w'.ownsRow w.heap.size 3 1 v K.length (K.map natV) ∧ Fr C0 w w' := by
 obtain ⟨es, clock, hb, he⟩ := h
 have hrg := run_range_map (P := Tryz.prog) w 74 3 3 lm es clock Tryz.underlying74 hb
 have HE := zhd he
 have HB := zhd hb
 have hlt : lm < w.heap.size := (Array.getElem?_eq_some_iff.1 hb).1
 clear he hb
 go_enter Tryz.func63, Tryz.ntmps63
 go_wp2
 go_loopw [3, 4] (fun v _ wr => ∃ (seen : Array Nat) (K : List Nat) (c0 : Nat), Hid (wr.heap[w.heap.size]? = some (.mapIter (some lm) clock seen c0)) ∧ Hid (clock ≤ c0) ∧ Hid (Fr C0 w wr) ∧ Hid (wr.ownsRow (w.heap.size + 1) 3 1 v K.length (K.map natV)) ∧ Hid (w.heap.size < wr.heap.size) ∧ Hid (∀ x ∈ es.toList, (seen.contains x.born = true ↔ ∃ k ∈ K, x.key = natV k)) ∧ Hid K.Nodup ∧ Hid (∀ k ∈ K, k ∈ L)) (fun _ _ wr => leftAt wr lm w.heap.size)
 case atStart =>
  exact ⟨#[], [], clock, zhd (heap_alloc_new _ _), zhd (Nat.le_refl _), zhd ((Fr.refl _ _).alloc _), zhd (World.ownsRow_nil _ _ _ _), zhd (by simp), zhd (by simp), zhd .nil, zhd (by simp)⟩
 case round =>
  obtain ⟨seen, K, c0, HI, HC0, HF, HO, HL, HS, HN, HK⟩ := hrel
  have hlt1 : ¬ lm = w.heap.size := by omega
  have HB1 := zhd (HF.out.blk HB.out (fun h => h))
  rcases run_next_at (P := Tryz.prog) wr 0 w.heap.size lm clock c0 seen es clock HI.out HB1.out HE.out.clock HC0.out with ⟨h0, hrun⟩ | ⟨e, hel, w2, hal, hrun⟩
  · have H0 := zhd h0
    clear h0
    go_wp2
    go_ret
    have hall : ∀ x ∈ es.toList, seen.contains x.born = true := by
     intro x hx
     cases hc : seen.contains x.born with
     | true => rfl
     | false =>
       have h1 : x ∈ leftOf es seen := by unfold leftOf; rw [Array.mem_filter]; exact ⟨by simpa using hx, by simpa using hc⟩
       have := Array.size_pos_of_mem h1
       have := H0.out
       omega
    refine ⟨_, K, rfl, HN.out, fun x => ⟨HK.out x, fun hx => ?_⟩, z0n HO.out (fun b e => by have := (HO.out.lt b e).1; omega), HF.out⟩
    obtain ⟨y, hy, hk, -⟩ := z56 HE.out (zft.1 hx)
    obtain ⟨k, hk2, hk3⟩ := (HS.out y hy).1 (hall y hy)
    rw [hk] at hk3
    injection hk3 with _ hk3
    have : x = k := by omega
    rw [this]; exact hk2
  · obtain ⟨he1, hns⟩ : e ∈ es.toList ∧ seen.contains e.born = false := by
     unfold leftOf at hel
     simpa using hel
    obtain ⟨p, hp, hk, hv⟩ := z57 HE.out he1
    obtain ⟨k, rfl, hkL⟩ : ∃ k : Nat, p = ((k : Int), (1 : Int)) ∧ k ∈ L := by
     unfold ones marks at hp
     obtain ⟨k, hk1, rfl⟩ := List.mem_map.1 hp
     exact ⟨k, by simp, hk1⟩
    have F2 : Fr (fun b => b = w.heap.size) wr (ChangeMaps.setBlock w2 w.heap.size (.mapIter (some lm) clock (seen.push e.born) clock)) := by
     rcases hal with rfl | rfl
     · exact Fr.putObj (C := fun b => b = w.heap.size) (r := w.heap.size) (Fr.refl _ _) (.inr rfl) _
     · exact Fr.putObj (C := fun b => b = w.heap.size) (r := w.heap.size) (Fr.refl _ wr).drew (.inr rfl) _
    have hs2 : w.heap.size < w2.heap.size := by rcases hal with rfl | rfl <;> exact HL.out
    have hI2 : (ChangeMaps.setBlock w2 w.heap.size (.mapIter (some lm) clock (seen.push e.born) clock)).heap[w.heap.size]? = some (.mapIter (some lm) clock (seen.push e.born) clock) := z02 hs2
    generalize ChangeMaps.setBlock w2 w.heap.size (.mapIter (some lm) clock (seen.push e.born) clock) = w3 at *
    have hB3 := F2.blk HB1.out hlt1
    have hent := run_entry_at (P := Tryz.prog) w3 w.heap.size lm clock seen es clock e hI2 hB3 he1 HE.out.born
    rw [hk, hv] at hrun hent
    have HO3 := zhd (z0m HO.out F2 (fun b hb e => by have := (HO.out.lt b hb).1; omega))
    have HI3 := zhd hI2
    have HB3 := zhd hB3
    have hKl : K.length ≤ 5000 := by
     have := z91 HN.out HK.out
     omega
    have hF3 : Fr C0 w w3 := ⟨F2.os.trans HF.out.os, F2.output.trans HF.out.output, Nat.le_trans HF.out.size F2.size, fun j hj hn => by
     rw [F2.block j (Nat.lt_of_lt_of_le hj HF.out.size) (by omega)]; exact HF.out.block j hj hn⟩
    have HF3 := zhd hF3
    have hs3 : w.heap.size < w3.heap.size := Nat.lt_of_lt_of_le HL.out F2.size
    clear hI2 hB3 F2 hal hs2 hF3
    go_wp2_with (at_builtin; go_must (refine z0l z2l rfl _ _ rfl (xv := .slice (some ⟨w3.heap.size, 0, none⟩) 1 1) rfl rfl (z0m HO3.out ((Fr.refl C0 w3).alloc (.cells #[natV k] 3)) (fun _ _ h => h)) (Row.ofBlock (F := fun _ => True) (heap_alloc_new _ _) trivial (by unfold maxLen; omega) rfl) (by simp [Value.oneCell', natV]) (by unfold maxLen; omega) (by omega) (by rw [show ∀ o, (w3.alloc o).heap.size = w3.heap.size + 1 from fun o => by simp [go_sem]]; omega) ?_); intro v6 w6 o6 f6 k6 nil6)
    have F6 := zhd ((Fr.refl C0 w3).alloc (.cells #[.int .i64 (k : Int)] 3))
    have hnk : k ∉ K := fun hk2 => by
     have := (HS.out e he1).2 ⟨k, hk2, hk⟩
     rw [hns] at this; cases this
    have hnr := fun b hb => (HO.out.lt b hb).1
    have hI6 := f6.blk (F6.out.blk HI3.out (fun h => h)) (fun h => by have := hnr _ h; omega)
    have hF6 : Fr C0 w w6 := ⟨f6.os.trans (F6.out.os.trans HF3.out.os), f6.output.trans (F6.out.output.trans HF3.out.output), Nat.le_trans HF3.out.size (Nat.le_trans F6.out.size f6.size), fun j hj hn => by
     rw [f6.block j (Nat.lt_of_lt_of_le hj (Nat.le_trans HF3.out.size F6.out.size)) (fun h => by have := (HO.out.lt _ h).1; omega), F6.out.block j (Nat.lt_of_lt_of_le hj HF3.out.size) (fun h => h)]
     exact HF3.out.block j hj hn⟩
    have HI6 := zhd hI6
    have HF6 := zhd hF6
    have O6 := zhd o6
    have hs6 := f6.size
    have hs36 := F6.out.size
    clear hI6 hF6 o6 f6 k6 nil6
    go_wp2
    go_roundw
    case rel =>
     refine ⟨seen.push e.born, K ++ [k], clock, HI6, zhd (Nat.le_refl _), HF6, zhd (by have := O6.out; simp only [List.length_append, List.length_singleton, List.map_append, List.map_cons, List.map_nil]; exact this), zhd (by omega), zhd fun x hx => ?_, zhd ?_, zhd ?_⟩
     · have hx0 : (seen.push e.born).contains x.born = true ↔ (seen.contains x.born = true ∨ x = e) := by
        constructor
        · intro hc
          simp at hc
          rcases hc with hc | hc
          · exact .inl (by simpa using hc)
          · exact .inr (z59 HE.out.born hx he1 hc)
        · rintro (hc | rfl)
          · simp at hc ⊢; exact .inl hc
          · simp
       rw [hx0, HS.out x hx]
       constructor
       · rintro (⟨k2, h2, h3⟩ | rfl)
         · exact ⟨k2, by simp [h2], h3⟩
         · exact ⟨k, by simp, hk⟩
       · rintro ⟨k2, h2, h3⟩
         rcases List.mem_append.1 h2 with h2 | h2
         · exact .inl ⟨k2, h2, h3⟩
         · simp at h2
           subst h2
           exact .inr (zfw HE.out hx he1 (h3.trans hk.symm))
     · exact List.nodup_append.2 ⟨HN.out, by simp, fun a ha b hb e2 => hnk (by simp at hb; rw [← hb, ← e2]; exact ha)⟩
     · intro x hx
       rcases List.mem_append.1 hx with h | h
       · exact HK.out x h
       · simp at h; rw [h]; exact hkL
    case measure =>
     rw [zfu (HF6.out.blk HB.out (fun h => h)) HI6.out, zfu HB1.out HI.out]
     exact z58 (List.Sublist.refl _) he1 hns
theorem zfy {w : World} {m : Nat} {L : List Nat} (h : MapIs w m (vmap (ones L))) : L.Nodup := by
 obtain ⟨es, ck, _, he⟩ := h
 have h1 := he.keys
 have h2 : (vmap (ones L)).map Prod.fst = L.map fun k : Nat => (k : Int) := by
  simp [vmap, ones, marks]
 rw [h2] at h1
 exact (List.pairwise_map.1 h1).imp fun h e => h (by rw [e])
theorem zfz {c : Nat → Nat} {r B : Nat} {w : World} {st : Nat} {S : SSt} {D : DSt} {v : Value} {K : List Nat} (h : StoreOk c r w st S D) (ha : Alive S D) (hs : S.state = []) (ho : w.ownsRow B 3 1 v K.length (K.map natV)) (hk : ∀ k ∈ K, 2 ≤ k ∧ k < S.pages + 2) (hn : K.Nodup) (hr : r ≠ 0) (hvo : ∀ b, v.ownBlock = some b → c b ≠ r) :
 Calls Tryz.prog 62 #[.pointer (some ⟨st, 0, none⟩), v] w fun e w' => e = .returned (.int .i64 0) ∧ StoreOk c r w' st { S with state := ones K } D ∧ ∃ sm, c sm = r ∧ (∃ es ck, w.heap[sm]? = some (.map es ck)) ∧ Fr (fun b => b = sm) w w' := by
 obtain ⟨sm, d, m, ov, h⟩ := h
 have HDEAD := zhd (z4t h)
 rw [ha.dead] at HDEAD
 have HS := zhd h
 have HSM := zhd ha.small
 have HKK := zhd hk
 have HN := zhd hn
 have hst := h.st_sm
 have c1 := z2e h.blk 1 rfl
 have hsm := h.map
 rw [hs] at hsm
 have HMP : Hid (MapIs w sm (vmap [])) := zhd hsm
 have hlen : K.length ≤ 5000 := by
  have := z91 (b := (List.range S.pages).map (· + 2)) hn fun x hx => by
   have := hk x hx
   exact List.mem_map.2 ⟨x - 2, List.mem_range.2 (by omega), by show x - 2 + 2 = x; omega⟩
  have h2 := ha.small
  simp at this
  omega
 obtain ⟨A, cp, rfl, hcp, HCELL⟩ : ∃ A cp, v = .slice A K.length cp ∧ K.length ≤ cp ∧ Hid (∀ w_, Fr (fun b => b = sm) w w_ → ∀ (i : Nat) (hi : i < K.length), ∃ g, A = some ⟨g, 0, none⟩ ∧ w_.cell? ⟨g, i, none⟩ = some (.int .i64 (K[i] : Int))) := by
  rcases ho.2 with ⟨rfl, hnil⟩ | ⟨g, cap, cur, rfl, hb, hg, hcc, -⟩
  · have h0 : K.length = 0 := hnil
    exact ⟨none, 0, by rw [h0], by omega, zhd fun w_ _ i hi => by omega⟩
  · refine ⟨some ⟨g, 0, none⟩, cap, rfl, hcc, zhd fun w_ hf i hi => ⟨g, rfl, ?_⟩⟩
    have h1 := ho.cells (g := g) rfl i (natV K[i]) (by simp [hi])
    rw [show (⟨g, 0, none⟩ : Addr).add i = ⟨g, i, none⟩ from by unfold Addr.add; split <;> simp_all] at h1
    exact hf.cell h1 (fun e => hvo g rfl (by rw [show g = sm from e]; exact HS.out.osm))
 clear h ha hsm ho hvo hk hn
 go_enter Tryz.func62, Tryz.ntmps62
 go_wp2_with fail
 refine HDEAD.out.mono ?_
 rintro e w1 ⟨rfl, hw1⟩
 have F1 := zhd (show Fr C0 w w1 from by rw [hw1]; exact (Fr.refl _ w).drew)
 clear hw1 HDEAD
 go_wp2
 go_loopw [6, 13] (fun _ i wr => ∃ k : Nat, k ≤ K.length ∧ i = .int .i64 (k : Int) ∧ w1 = wr) (fun _ i _ => K.length - (intOf i).toNat)
 case atStart => exact ⟨0, by omega, rfl, rfl⟩
 case round =>
  obtain ⟨k, hk, rfl, rfl⟩ := hrel
  by_cases hlt : k < K.length
  · obtain ⟨g, rfl, hcell⟩ := HCELL.out w1 (F1.out.mono (fun _ _ h => h.elim)) k hlt
    have hkk := HKK.out _ (List.getElem_mem hlt)
    have HIS1 := zhd (z4w (HS.out.fr F1.out (fun _ h => h.elim) (fun _ h => h.elim)) HSM.out K[k])
    have e1 : (decide (2 ≤ K[k]) && decide (K[k] < 2 + S.pages)) = true := by simp; omega
    rw [e1] at HIS1
    clear e1 hkk
    generalize (K[k] : Nat) = x at *
    go_wp2_with fail
    refine HIS1.out.mono ?_
    rintro e w2 ⟨rfl, rfl⟩
    go_wp2
    go_roundw
    case rel => exact ⟨k + 1, by omega, by go_num, by first | rfl | trivial⟩
    case measure => simp [intOf]; omega
  · obtain rfl : k = K.length := by omega
    go_wp2
    go_loopw [8, 26] (fun _ i wr => ∃ k : Nat, k ≤ K.length ∧ i = .int .i64 (k : Int) ∧ Hid (Fr (fun b => b = sm) w1 wr) ∧ Hid (MapIs wr sm (vmap (ones (K.take k))))) (fun _ i _ => K.length - (intOf i).toNat)
    case atStart => exact ⟨0, by omega, rfl, zhd (Fr.refl _ _), zhd (HMP.out.fr F1.out (fun h => h))⟩
    case round =>
     obtain ⟨j, hj, rfl, HF, HM⟩ := hrel
     by_cases hlt2 : j < K.length
     · obtain ⟨g, rfl, hcell⟩ := HCELL.out wr ((F1.out.mono (C2 := fun b => b = sm) (fun _ _ h => h.elim)).trans HF.out (fun _ _ h => h)) j hlt2
       have c1r := HF.out.cell (F1.out.cell0 c1) hst
       have hnew : K[j] ∉ K.take j := fun hm => by
        have h2 := HN.out
        rw [← List.take_append_drop j K, List.drop_eq_getElem_cons hlt2] at h2
        exact (List.nodup_append.1 h2).2.2 _ hm _ List.mem_cons_self rfl
       have htk : K.take (j + 1) = K.take j ++ [K[j]] := by rw [List.take_succ_eq_append_getElem hlt2]
       have HTK := zhd htk
       have HNEW := zhd hnew
       clear htk hnew
       generalize hx : (K[j] : Nat) = x at *
       clear hx
       go_wp2_with (refine z1x rfl Tryz.underlying74 Tryz.underlying3 _ _ _ rfl (m := sm) (k := (x : Int)) (v := .int .i64 1) rfl rfl rfl HM.out ?_; intro w4 n4 f4)
       have N4 := zhd (show MapIs w4 sm (vmap (ones (K.take (j + 1)))) from by rw [HTK.out, ← z8w HNEW.out, ← z4q]; exact n4)
       have F4 := zhd (HF.out.trans f4 (fun _ _ h => h))
       clear n4 f4
       go_wp2
       go_roundw
       case rel => exact ⟨j + 1, by omega, by go_num, F4, N4⟩
       case measure => simp [intOf]; omega
     · obtain rfl : j = K.length := by omega
       have hm := HM.out
       rw [List.take_of_length_le (Nat.le_refl _)] at hm
       have HM2 := zhd hm
       clear hm
       go_wp2
       go_ret
       have f := (F1.out.mono (C2 := fun b => b = sm) (fun _ _ h => h.elim)).trans HF.out (fun _ _ h => h)
       exact ⟨rfl, ⟨sm, d, m, ov, HS.out.setState hr HM2.out f⟩, sm, HS.out.osm, by obtain ⟨es, ck, h1, _⟩ := HS.out.map; exact ⟨es, ck, h1⟩, f⟩
end
end Go.Proofs.YtcmicdcikechkaaGreat
namespace Go.H
open Go.RowKit
section
def Qp (s : List Nat) (Q : Exit → Act → World → Prop) (e : Exit) (a : Act) (w : World) : Prop :=
 match e with
 | .panic c => ∀ a' : Act, (∀ j ∈ s, a'.tmps[j]? = a.tmps[j]?) → a'.defers = a.defers → Q (.panic c) a' w
 | x => Q x a w
theorem zg0 {a : Act} {d : Option Tmp} {v : Value} {j : Nat} (h : d ≠ some j) : (a.put d v).tmps[j]? = a.tmps[j]? := by
 cases d with
 | none => rfl
 | some i =>
   show (a.tmps.setIfInBounds i v)[j]? = _
   rw [Array.getElem?_setIfInBounds, if_neg (fun e => h (by rw [e]))]
theorem zg1 {a : Act} {d : Option Tmp} {v : Value} : (a.put d v).defers = a.defers := by cases d <;> rfl
theorem zg2 {s : List Nat} {Q : Exit → Act → World → Prop} {d : Option Tmp} {v : Value} (h : (s.all fun j => decide (d ≠ some j)) = true) : ∀ c a w, Qp s Q (.panic c) (a.put d v) w → Qp s Q (.panic c) a w := fun c a w k a' h1 h2 =>
 k a' (fun j hj => (h1 j hj).trans (zg0 (by have := List.all_eq_true.1 h j hj; simpa using this)).symm) (h2.trans zg1.symm)
theorem zg3 {P : Program} {c : Code} (s : List Nat) {Q : Exit → Act → World → Prop} {a : Act} {w : World} (h : c.wp P (Qp s Q) a w) : c.wp P Q a w :=
 Code.wp_mono (fun e a w h => by
  cases e with
  | panic c => exact h a (fun _ _ => rfl) rfl
  | _ => exact h) h
end
end Go.H
