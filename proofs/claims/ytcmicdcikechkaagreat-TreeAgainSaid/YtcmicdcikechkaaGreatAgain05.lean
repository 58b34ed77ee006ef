import Derived.Test.YtcmicdcikechkaaGreatAgain04
set_option linter.all false
namespace Go.Proofs.YtcmicdcikechkaaGreat
open Go.RowKit Go.H
set_option maxHeartbeats 1000000
set_option maxRecDepth 100000
section
theorem fill_calls {w : World} {g : Nat} {cs : Array Value} (hg : w.heap[g]? = some (.cells cs 185 (0, 0))) (hn : cs.size = 1024) :
    Calls Tryz.prog 122 #[.pointer (some ⟨g, 0, none⟩)] w fun e w' => e = .returned (.tuple #[]) ∧ Fr (fun b => b = g) w w' ∧ ∃ cs', w'.heap[g]? = some (.cells cs' 185 (0, 0)) ∧ ∀ k i, k < 4 → i < 256 → cs'[k * 256 + i]? = some (.int .u32 (tab k i)) := by
  go_enter Tryz.func122, Tryz.ntmps122
  go_wp2
  go_loopw [2, 3, 4, 8, 13] (fun a b c i j wr => ∃ (n : Nat) (cs' : Array Value), n ≤ 256 ∧ i = .int .i64 (n : Int) ∧ Hid (Fr (fun b => b = g) w wr) ∧ Hid (cs'.size = 1024) ∧ Hid (wr.heap[g]? = some (.cells cs' 185 (0, 0))) ∧ Hid (∀ i : Nat, i < n → cs'[i]? = some (.int .u32 (tab 0 i)))) (fun _ _ _ i _ _ => 256 - (intOf i).toNat)
  case atStart => exact ⟨0, cs, by omega, rfl, Lib.hid (Fr.refl _ _), Lib.hid hn, Lib.hid hg, Lib.hid (fun i h => absurd h (by omega))⟩
  case round =>
    obtain ⟨n, cs', hn', rfl, HF, HS, HG, HT⟩ := hrel
    by_cases hlt : n < 256
    · go_wp2
      go_loopw [3, 4, 13] (fun a b j wr2 => ∃ m : Nat, m ≤ 8 ∧ a = .int .u32 (crcN n m) ∧ j = .int .i64 (m : Int) ∧ wr2 = wr) (fun _ _ j _ => 8 - (intOf j).toNat)
      case atStart => exact ⟨0, by omega, by simp [crcN], rfl, rfl⟩
      case round =>
        obtain ⟨m, hm, rfl, rfl, rfl⟩ := hrel
        by_cases hl8 : m < 8
        · have hc : crcN n (m + 1) = crcStep (crcN n m) := rfl
          have hu := crcN_u hlt m
          unfold crcStep at hc
          by_cases hb : bits .and .u32 (crcN n m) 1 = 1
          · rw [if_pos hb] at hc
            go_wp2
            go_roundw
            case rel => exact ⟨m + 1, by omega, by rw [hc], by go_num, trivial⟩
            case measure => simp [intOf]; omega
          · rw [if_neg hb] at hc
            go_wp2
            go_roundw
            case rel => exact ⟨m + 1, by omega, by rw [hc], by go_num, trivial⟩
            case measure => simp [intOf]; omega
        · obtain rfl : m = 8 := by omega
          have z := blk_free n HG.out
          have z1 : wr.cell? ⟨g, n, none⟩ = cs'[n]? := cell_of_row wr g n _ _ _ HG.out
          rw [Array.getElem?_eq_getElem (by rw [HS.out]; omega)] at z1
          have hT := HT.out
          have hS := HS.out
          go_wp2
          go_roundw
          case rel =>
            refine ⟨n + 1, cs'.setIfInBounds n (.int .u32 (crcN n 8)), by omega, by go_num, Lib.hid (HF.out.trans ((Fr.refl (fun b => b = g) wr).setCell (.inr rfl) _) (fun _ _ h => h)), Lib.hid (by simp [hS]), Lib.hid (blk_set HG.out _), Lib.hid fun i hi => ?_⟩
            rw [Array.getElem?_setIfInBounds]
            by_cases hin : n = i
            · subst hin; rw [if_pos rfl, if_pos (by omega)]; rfl
            · rw [if_neg hin]; exact hT i (by omega)
          case measure => simp [intOf]; omega
    · obtain rfl : n = 256 := by omega
      go_wp2
      go_loopw [5, 6, 7, 41] (fun a b c j wr2 => ∃ (k : Nat) (cs' : Array Value), 1 ≤ k ∧ k ≤ 4 ∧ a = .int .i64 (k : Int) ∧ Hid (Fr (fun b => b = g) w wr2) ∧ Hid (cs'.size = 1024) ∧ Hid (wr2.heap[g]? = some (.cells cs' 185 (0, 0))) ∧ Hid (∀ k2 i : Nat, k2 < k → i < 256 → cs'[k2 * 256 + i]? = some (.int .u32 (tab k2 i)))) (fun a _ _ _ _ => 4 - (intOf a).toNat)
      case atStart => exact ⟨1, cs', by omega, by omega, rfl, HF, HS, HG, Lib.hid (fun k2 i hk hi => by rw [show k2 = 0 by omega, Nat.zero_mul, Nat.zero_add]; exact HT.out i hi)⟩
      case round =>
        obtain ⟨k, cs', hk1, hk4, rfl, HF, HS, HG, HT⟩ := hrel
        by_cases hlt : k < 4
        · have hk : ∃ k', k = k' + 1 ∧ k' < 3 := ⟨k - 1, by omega, by omega⟩
          obtain ⟨k', rfl, hk3⟩ := hk
          clear hk1 hk4
          have hrow : wr.rangeAt g (k' * 256) (tabRow k') := by
            intro j v hj
            rw [cell_of_row wr g _ _ _ _ HG.out]
            by_cases hj2 : j < 256
            · rw [tabRow_get hj2] at hj
              rw [HT.out k' j (by omega) hj2]; exact hj
            · rw [List.getElem?_eq_none (by rw [tabRow_length]; omega)] at hj; cases hj
          have hsz : (Tryz.prog.info? 183).map (·.size) = some (tabRow k').length := by rw [tabRow_length]; kernel_rfl
          have HSZ := Lib.hid hsz
          clear hsz
          have HROW := Lib.hid hrow
          clear hrow
          go_wp2_with (go_loud (refine wpList_load_mid rfl 183 (.tmp 39) rfl g (k' * 256) rfl _ _ HROW.out Tryz.underlying183 rfl HSZ.out ?_))
          have HT1 := Lib.hid HT.out
          clear HROW
          go_loopw [6, 7, 41] (fun b c j wr2 => ∃ (n : Nat) (cs' : Array Value), n ≤ 256 ∧ j = .int .i64 (n : Int) ∧ Hid (Fr (fun b => b = g) w wr2) ∧ Hid (cs'.size = 1024) ∧ Hid (wr2.heap[g]? = some (.cells cs' 185 (0, 0))) ∧ Hid (∀ k2 i : Nat, k2 < k' + 1 ∨ (k2 = k' + 1 ∧ i < n) → i < 256 → cs'[k2 * 256 + i]? = some (.int .u32 (tab k2 i)))) (fun _ _ j _ => 256 - (intOf j).toNat)
          case atStart => exact ⟨0, cs', by omega, rfl, HF, HS, HG, Lib.hid (fun k2 i hk hi => HT.out k2 i (by omega) hi)⟩
          case round =>
            clear HF HS HG HT HT1
            obtain ⟨n, cs', hn', rfl, HF, HS, HG, HT⟩ := hrel
            by_cases hlt : n < 256
            · have hu := tab_u hlt k'
              have hix := tabRow_get (k := k') hlt
              have hidx := index_row (w := wr) hlt hix rfl
              go_wp2_with fail
              have h255 := and255 hu
              have hm : (tab k' n % 256).toNat < 256 := by omega
              have c0 : wr.cell? ⟨g, (tab k' n % 256).toNat, none⟩ = some (.int .u32 (tab 0 (tab k' n % 256).toNat)) := by
                rw [cell_of_row wr g _ _ _ _ HG.out]; simpa using HT.out 0 _ (by omega) hm
              have hp0 : 0 ≤ tab k' n % 256 := by omega
              have hp1 : tab k' n % 256 < 256 := by omega
              have hp2 : (0 : Int) ≤ (k' : Int) + 1 := by omega
              have z1 : wr.cell? ⟨g, (k' + 1) * 256 + n, none⟩ = cs'[(k' + 1) * 256 + n]? := cell_of_row wr g _ _ _ _ HG.out
              rw [Array.getElem?_eq_getElem (by rw [HS.out]; omega)] at z1
              have z0 := blk_free ((k' + 1) * 256 + n) HG.out
              refine wp_region_L (Fr C0 wr) [16] (by kernel_rfl) ?_
              have hSw0 : (Fr C0 wr) _ := (Fr.refl _ wr).drew
              refine tk 0 hSw0 ?_
              refine tk 1 hSw0 ?_
              refine tk 2 hSw0 ?_
              refine tk 3 hSw0 ?_
              refine tk 4 hSw0 ?_
              refine tk 5 hSw0 ?_
              refine tk 6 hSw0 ?_
              refine tk 7 hSw0 ?_
              refine tk 8 hSw0 ?_
              refine tk 9 hSw0 ?_
              refine tk 10 hSw0 ?_
              refine tk 11 hSw0 ?_ (hy := by intro w_ hS_; have c1 := hS_.cell0 c0; first | (go_simp; done) | (go_simp; with_reducible rfl))
              refine tk 12 hSw0 ?_
              refine tk 13 hSw0 ?_
              refine tk 14 hSw0 ?_
              refine tk 15 hSw0 ?_
              refine late_ 16 rfl (fun K hK => ?_)
              have z2 := hSw0.cell0 z1
              have z3 := (hSw0.frozen (World.block_lt_of_cell? wr _ z1) (fun h => h)).trans z0
              go_simp
              refine hK.out _ _ ?_; clear hK K
              try simp only [Act.put, List.setIfInBounds_toArray, List.set_cons_zero, List.set_cons_succ]
              refine wpAnyL_done (by kernel_rfl) ?_ _
              have hv : bits .xor .u32 (tab k' n / 256) (tab 0 (tab k' n % 256).toNat) = tab (k' + 1) n := rfl
              rw [hv]
              have hFS : Hid (Fr (fun b => b = g) w (wr.setCell ⟨g, (k' + 1) * 256 + n, none⟩ (.int .u32 (tab (k' + 1) n))).drew) := Lib.hid ((HF.out.trans ((Fr.refl (fun b => b = g) wr).setCell (.inr rfl) _) (fun _ _ h => h)).drew)
              have hGS : Hid ((wr.setCell ⟨g, (k' + 1) * 256 + n, none⟩ (.int .u32 (tab (k' + 1) n))).drew.heap[g]? = some (.cells (cs'.setIfInBounds ((k' + 1) * 256 + n) (.int .u32 (tab (k' + 1) n))) 185 (0, 0))) := Lib.hid (blk_set HG.out _)
              have hS := HS.out
              have hT := HT.out
              go_wp2
              refine ⟨?_, ?measure3⟩
              case' measure3 => simp [intOf]; omega
              refine ⟨n + 1, _, by omega, by go_num, hFS, Lib.hid (by simp [hS]), hGS, Lib.hid fun k2 i hk hi => ?_⟩
              rw [Array.getElem?_setIfInBounds]
              by_cases hin : (k' + 1) * 256 + n = k2 * 256 + i
              · rw [if_pos hin, if_pos (by omega)]
                obtain rfl : k2 = k' + 1 := by omega
                obtain rfl : i = n := by omega
                rfl
              · rw [if_neg hin]; exact hT k2 i (by omega) hi
            · obtain rfl : n = 256 := by omega
              go_wp2
              refine ⟨?_, ?measure2⟩
              case' measure2 => simp [intOf]; omega
              repeat apply Exists.intro
              refine ⟨?rel2, rfl⟩
              case' rel2 => exact ⟨k' + 1 + 1, cs', by omega, by omega, by go_num, HF, HS, HG, Lib.hid (fun k2 i hk hi => HT.out k2 i (by omega) hi)⟩
        · obtain rfl : k = 4 := by omega
          go_wp2
          go_end0
          exact ⟨rfl, HF.out, cs', HG.out, HT.out⟩
end
section
theorem sum_calls {F : Nat → Prop} {w : World} {v : Value} {l : List UInt8} (h : BytesAt F w v l) (hn : l.length ≤ 100000) :
    Calls Tryz.prog 117 #[v] w fun e w' => e = .returned (.int .u32 (crc l)) ∧ Fr C0 w w' := by
  have HR := Lib.hid h
  obtain ⟨A, c, rfl, h1, h2⟩ := h.form
  go_enter Tryz.func117, Tryz.ntmps117
  go_wp2_with fail
  refine (fill_calls (heap_alloc_new w _) (by kernel_rfl)).mono ?_
  rintro e w1 ⟨rfl, f1, cs, hg, hT⟩
  have HF1 : Hid (Fr C0 w w1) := Lib.hid (((Fr.refl C0 w).alloc _).trans f1 (fun i hi h => absurd h (by omega)))
  have HG := Lib.hid hg
  have HT := Lib.hid hT
  clear f1 hg hT h
  go_wp2
  go_loopw [0, 4] (fun b r wr => ∃ (A : Option Addr) (c : Nat) (l2 : List UInt8) (x : Int), b = .slice A l2.length c ∧ l2.length ≤ 100000 ∧ l2.length ≤ c ∧ r = .int .u32 x ∧ Hid (BytesAt F wr (.slice A l2.length c) l2) ∧ Hid (crcAll x l2 = crcAll 4294967295 l) ∧ Hid (U32 x) ∧ Hid (Fr C0 w wr) ∧ Hid (wr.heap[w.heap.size]? = some (.cells cs 185 (0, 0)))) (fun b _ _ => match b with | .slice _ n _ => n | _ => 0)
  case atStart => exact ⟨A, c, l, _, rfl, hn, h1, rfl, Lib.hid (HR.out.fr0 HF1.out), Lib.hid rfl, Lib.hid ⟨by omega, by omega⟩, HF1, HG⟩
  case round =>
    clear HF1 HG HR h1 h2 hn
    obtain ⟨A, c, l2, x, rfl, hn, hc, rfl, HB, HC, HU, HF, HG⟩ := hrel
    by_cases h4 : 4 ≤ l2.length
    · obtain ⟨g, o, rfl, _, b0⟩ := HB.out.at_ 0 (by omega)
      obtain ⟨g', o', he1, _, b1⟩ := HB.out.at_ 1 (by omega)
      obtain ⟨g', o', he2, _, b2⟩ := HB.out.at_ 2 (by omega)
      obtain ⟨g', o', he3, _, b3⟩ := HB.out.at_ 3 (by omega)
      cases he1; cases he2; cases he3
      rw [Nat.add_zero] at b0
      have i0 : (0 : Int) < (l2.length : Int) := by omega
      have i1 : (1 : Int) < (l2.length : Int) := by omega
      have i2 : (2 : Int) < (l2.length : Int) := by omega
      have i3 : (3 : Int) < (l2.length : Int) := by omega
      have j0 : 0 < l2.length := by omega
      have j1 : 1 < l2.length := by omega
      have j2 : 2 < l2.length := by omega
      have j3 : 3 < l2.length := by omega
      have y0 := l2[0].toNat_lt
      have y1 := l2[1].toNat_lt
      have y2 := l2[2].toNat_lt
      have y3 := l2[3].toNat_lt
      have w1' : IntKind.u32.wrap ((l2[1].toNat : Int) * 256) = (l2[1].toNat : Int) * 256 := wraps_u32' _ (by omega) (by omega)
      have w2' : IntKind.u32.wrap ((l2[2].toNat : Int) * 65536) = (l2[2].toNat : Int) * 65536 := wraps_u32' _ (by omega) (by omega)
      have w3' : IntKind.u32.wrap ((l2[3].toNat : Int) * 16777216) = (l2[3].toNat : Int) * 16777216 := wraps_u32' _ (by omega) (by omega)
      go_wp2
      refine wp_region_L (Fr C0 wr) [] (by kernel_rfl) ?_
      have hSw0 : (Fr C0 wr) _ := (Fr.refl _ wr).drew
      refine tk 0 hSw0 ?_
      refine tk 1 hSw0 ?_
      refine tk 2 hSw0 ?_
      refine tk 3 hSw0 ?_ (hy := by intro w_ hS_; have c0 := hS_.cell0 b0; have c1 := hS_.cell0 b1; have c2 := hS_.cell0 b2; have c3 := hS_.cell0 b3; first | (go_simp; done) | (go_simp; with_reducible rfl))
      refine tk 4 hSw0 ?_
      refine tk 5 hSw0 ?_
      refine tk 6 hSw0 ?_
      refine tk 7 hSw0 ?_ (hy := by intro w_ hS_; have c0 := hS_.cell0 b0; have c1 := hS_.cell0 b1; have c2 := hS_.cell0 b2; have c3 := hS_.cell0 b3; first | (go_simp; done) | (go_simp; with_reducible rfl))
      refine tk 8 hSw0 ?_
      refine tk 9 hSw0 ?_
      refine tk 10 hSw0 ?_
      refine tk 11 hSw0 ?_
      refine tk 12 hSw0 ?_
      refine tk 13 hSw0 ?_ (hy := by intro w_ hS_; have c0 := hS_.cell0 b0; have c1 := hS_.cell0 b1; have c2 := hS_.cell0 b2; have c3 := hS_.cell0 b3; first | (go_simp; done) | (go_simp; with_reducible rfl))
      refine tk 14 hSw0 ?_
      refine tk 15 hSw0 ?_
      refine tk 16 hSw0 ?_
      refine tk 17 hSw0 ?_
      refine tk 18 hSw0 ?_
      refine tk 19 hSw0 ?_ (hy := by intro w_ hS_; have c0 := hS_.cell0 b0; have c1 := hS_.cell0 b1; have c2 := hS_.cell0 b2; have c3 := hS_.cell0 b3; first | (go_simp; done) | (go_simp; with_reducible rfl))
      refine tk 20 hSw0 ?_
      refine tk 21 hSw0 ?_
      refine tk 22 hSw0 ?_
      refine tk 23 hSw0 ?_
      refine tk 24 hSw0 ?_
      refine wpAnyL_done (by kernel_rfl) ?_ _
      have q0 : IntKind.u32.wrap (l2[0].toNat : Int) = (l2[0].toNat : Int) := wraps_u32' _ (by omega) (by omega)
      have q1 : IntKind.u32.wrap (l2[1].toNat : Int) = (l2[1].toNat : Int) := wraps_u32' _ (by omega) (by omega)
      have q2 : IntKind.u32.wrap (l2[2].toNat : Int) = (l2[2].toNat : Int) := wraps_u32' _ (by omega) (by omega)
      have q3 : IntKind.u32.wrap (l2[3].toNat : Int) = (l2[3].toNat : Int) := wraps_u32' _ (by omega) (by omega)
      simp only [q0, q1, q2, q3, w1', w2', w3']
      have hx4 : bits .xor .u32 x (bits .or .u32 (bits .or .u32 (bits .or .u32 (l2[0].toNat : Int) ((l2[1].toNat : Int) * 256)) ((l2[2].toNat : Int) * 65536)) ((l2[3].toNat : Int) * 16777216)) = crc4in x l2[0] l2[1] l2[2] l2[3] := rfl
      rw [hx4]
      have hu4 : U32 (crc4in x l2[0] l2[1] l2[2] l2[3]) := bits32 _ _ _
      clear hx4 q0 q1 q2 q3 w1' w2' w3' b0 b1 b2 b3 i0 i1 i2 i3 y0 y1 y2 y3
      generalize hX : crc4in x l2[0] l2[1] l2[2] l2[3] = X at hu4 ⊢
      have hXu := hu4
      obtain ⟨ua, ub⟩ := hu4
      have a0 := and255 hXu
      have a1 : bits .and .u32 (X / 256) 255 = X / 256 % 256 := and255 ⟨by omega, by omega⟩
      have a2 : bits .and .u32 (X / 65536) 255 = X / 65536 % 256 := and255 ⟨by omega, by omega⟩
      have cellT : ∀ k i, k < 4 → i < 256 → wr.cell? ⟨w.heap.size, k * 256 + i, none⟩ = some (.int .u32 (tab k i)) := fun k i hk hi => by
        rw [cell_of_row wr _ _ _ _ _ HG.out]; exact HT.out k i hk hi
      have t3 : wr.cell? ⟨w.heap.size, 768 + (X % 256).toNat, none⟩ = _ := cellT 3 _ (by omega) (by omega)
      have t2 : wr.cell? ⟨w.heap.size, 512 + (X / 256 % 256).toNat, none⟩ = _ := cellT 2 _ (by omega) (by omega)
      have t1 : wr.cell? ⟨w.heap.size, 256 + (X / 65536 % 256).toNat, none⟩ = _ := cellT 1 _ (by omega) (by omega)
      have t0 : wr.cell? ⟨w.heap.size, (X / 16777216).toNat, none⟩ = some (.int .u32 (tab 0 (X / 16777216).toNat)) := by simpa using cellT 0 (X / 16777216).toNat (by omega) (by omega)
      have r0 : 0 ≤ X % 256 := by omega
      have r1 : 0 ≤ X / 256 % 256 := by omega
      have r2 : 0 ≤ X / 65536 % 256 := by omega
      have r3 : 0 ≤ X / 16777216 := by omega
      have s0 : X % 256 < 256 := by omega
      have s1 : X / 256 % 256 < 256 := by omega
      have s2 : X / 65536 % 256 < 256 := by omega
      have s3 : X / 16777216 < 256 := by omega
      clear cellT
      go_wp2
      refine wp_region_L (Fr C0 wr) [] (by kernel_rfl) ?_
      have hSw0 : (Fr C0 wr) _ := ((Fr.refl _ wr).drew).drew
      refine tk 0 hSw0 ?_
      refine tk 1 hSw0 ?_
      refine tk 2 hSw0 ?_
      refine tk 3 hSw0 ?_
      refine tk 4 hSw0 ?_ (hy := by intro w_ hS_; have c0 := hS_.cell0 t0; have c1 := hS_.cell0 t1; have c2 := hS_.cell0 t2; have c3 := hS_.cell0 t3; first | (go_simp; done) | (go_simp; with_reducible rfl))
      refine tk 5 hSw0 ?_
      refine tk 6 hSw0 ?_
      refine tk 7 hSw0 ?_
      refine tk 8 hSw0 ?_
      refine tk 9 hSw0 ?_
      refine tk 10 hSw0 ?_ (hy := by intro w_ hS_; have c0 := hS_.cell0 t0; have c1 := hS_.cell0 t1; have c2 := hS_.cell0 t2; have c3 := hS_.cell0 t3; first | (go_simp; done) | (go_simp; with_reducible rfl))
      refine tk 11 hSw0 ?_
      refine tk 12 hSw0 ?_
      refine tk 13 hSw0 ?_
      refine tk 14 hSw0 ?_
      refine tk 15 hSw0 ?_
      refine tk 16 hSw0 ?_
      refine tk 17 hSw0 ?_ (hy := by intro w_ hS_; have c0 := hS_.cell0 t0; have c1 := hS_.cell0 t1; have c2 := hS_.cell0 t2; have c3 := hS_.cell0 t3; first | (go_simp; done) | (go_simp; with_reducible rfl))
      refine tk 18 hSw0 ?_
      refine tk 19 hSw0 ?_
      refine tk 20 hSw0 ?_
      refine tk 21 hSw0 ?_
      refine tk 22 hSw0 ?_
      refine tk 23 hSw0 ?_ (hy := by intro w_ hS_; have c0 := hS_.cell0 t0; have c1 := hS_.cell0 t1; have c2 := hS_.cell0 t2; have c3 := hS_.cell0 t3; first | (go_simp; done) | (go_simp; with_reducible rfl))
      refine tk 24 hSw0 ?_
      refine tk 25 hSw0 ?_
      refine wpAnyL_done (by kernel_rfl) ?_ _
      go_wp2
      refine ⟨?_, by simp; omega⟩
      have hdr := HB.out.drop (i := 4) h4
      have hform : (if c = 4 then some (⟨g, o, none⟩ : Addr) else some ⟨g, o + 4, none⟩) = (if c = 4 then some (⟨g, o, none⟩ : Addr) else (some (⟨g, o, none⟩ : Addr)).map (·.add 4)) := by
        split <;> rfl
      have hfin : crcAll (crc4out X) (l2.drop 4) = crcAll x l2 := by
        obtain ⟨a, b, c', d, l3, rfl⟩ : ∃ a b c' d l3, l2 = a :: b :: c' :: d :: l3 := by
          match l2, h4 with
          | a :: b :: c' :: d :: l3, _ => exact ⟨a, b, c', d, l3, rfl⟩
        rw [← hX]; rfl
      have hlen : (l2.drop 4).length = l2.length - 4 := by simp
      refine ⟨_, _, l2.drop 4, crc4out X, by rw [hform, hlen], by rw [hlen]; omega, by rw [hlen]; omega, rfl, Lib.hid ?_, Lib.hid (hfin.trans HC.out), Lib.hid (bits32 _ _ _), Lib.hid HF.out.drew.drew, HG⟩
      rw [hlen]
      exact hdr.fr0 (Fr.refl C0 wr).drew.drew
    · go_wp2
      go_loopw [4, 6, 64] (fun r _ i wr2 => ∃ (k : Nat) (x : Int), k ≤ l2.length ∧ r = .int .u32 x ∧ i = .int .i64 (k : Int) ∧ Hid (crcAll x (l2.drop k) = crcAll 4294967295 l) ∧ Hid (U32 x) ∧ wr2 = wr) (fun _ _ i _ => l2.length - (intOf i).toNat)
      case atStart => exact ⟨0, x, by omega, rfl, rfl, HC, HU, rfl⟩
      case round =>
        clear HC HU
        obtain ⟨k, x, hk, rfl, rfl, HC, HU, rfl⟩ := hrel
        by_cases hlt : k < l2.length
        · obtain ⟨g, o, rfl, _, b0⟩ := HB.out.at_ k hlt
          have y0 := l2[k].toNat_lt
          have hu := HU.out
          obtain ⟨ua, ub⟩ := hu
          obtain ⟨m0, m1⟩ := bits8 .xor (x % 256) (l2[k].toNat : Int)
          have t0 : wr.cell? ⟨w.heap.size, (bits .xor .u8 (x % 256) (l2[k].toNat : Int)).toNat, none⟩ = some (.int .u32 (tab 0 (bits .xor .u8 (x % 256) (l2[k].toNat : Int)).toNat)) := by
            rw [cell_of_row wr _ _ _ _ _ HG.out]; simpa using HT.out 0 _ (by omega) (show (bits .xor .u8 (x % 256) (l2[k].toNat : Int)).toNat < 256 by omega)
          go_wp2
          go_roundw
          case rel =>
            have e := HC.out
            rw [List.drop_eq_getElem_cons hlt, crcAll_one _ _ _ (by simp; omega)] at e
            exact ⟨k + 1, crcByte x l2[k], by omega, rfl, by go_num, Lib.hid e, Lib.hid (bits32 _ _ _), by trivial⟩
          case measure => simp [intOf]; omega
        · obtain rfl : k = l2.length := by omega
          go_wp2
          go_ret
          have e := HC.out
          rw [List.drop_length] at e
          have e2 : x = crcAll 4294967295 l := e
          refine ⟨?_, HF.out⟩
          subst e2
          rfl
end
section
theorem bvn (u : Nat) (k : Nat) : Value.int IntKind.u8 ((u : Int) / (k : Int) % 256) = bv (UInt8.ofNat (u / k)) := by
  simp [bv] <;> omega
theorem bvn1 (u : Nat) : Value.int IntKind.u8 ((u : Int) % 256) = bv (UInt8.ofNat u) := by
  simp [bv] <;> omega
theorem mkb2 (w : World) : (Instr.makeSlice 30 (.int .i64 2) (.int .i64 2)).run Tryz.prog w = .ok (.slice (some ⟨w.heap.size, 0, none⟩) 2 2) (w.alloc (.cells #[.int .u8 0, .int .u8 0] 5)) := by kernel_rfl
theorem big2_calls (u : Nat) (hu : u < 18446744073709551616) (w : World) : Calls Tryz.prog 106 #[.int .u64 (u : Int), .int .i64 2] w fun e w' => ∃ v', e = .returned v' ∧ Fr C0 w w' ∧ w'.ownsRow w.heap.size 5 1 v' 2 ((bigB u 2).map bv) := by
  have hm := mkb2
  go_enter Tryz.func106, Tryz.ntmps106
  go_wp2
  refine wp_loop_rounds 3 ?_; rw [rounds_succ]
  go_wp2
  rw [rounds_succ]
  go_wp2
  rw [rounds_succ]
  go_wp2
  go_ret
  refine ⟨_, rfl, (Fr.refl _ w).alloc _, ?_⟩
  have e0 : Value.int IntKind.u8 ((u : Int) / 256 % 256) = bv (UInt8.ofNat (u / 256 ^ 1)) := bvn u 256
  have e1 : Value.int IntKind.u8 ((u : Int) % 256) = bv (UInt8.ofNat (u / 256 ^ 0)) := by rw [bvn1]; simp
  rw [e0, e1]
  exact World.ownsRow_lit w #[bv (UInt8.ofNat (u / 256 ^ 1)), bv (UInt8.ofNat (u / 256 ^ 0))] 2 (Nat.le_refl _) (by unfold maxLen; omega) rfl
theorem mkb4 (w : World) : (Instr.makeSlice 30 (.int .i64 4) (.int .i64 4)).run Tryz.prog w = .ok (.slice (some ⟨w.heap.size, 0, none⟩) 4 4) (w.alloc (.cells #[.int .u8 0, .int .u8 0, .int .u8 0, .int .u8 0] 5)) := by kernel_rfl
theorem big4_calls (u : Nat) (hu : u < 18446744073709551616) (w : World) : Calls Tryz.prog 106 #[.int .u64 (u : Int), .int .i64 4] w fun e w' => ∃ v', e = .returned v' ∧ Fr C0 w w' ∧ w'.ownsRow w.heap.size 5 1 v' 4 ((bigB u 4).map bv) := by
  have hm := mkb4
  go_enter Tryz.func106, Tryz.ntmps106
  go_wp2
  refine wp_loop_rounds 5 ?_; rw [rounds_succ]
  go_wp2
  rw [rounds_succ]
  go_wp2
  rw [rounds_succ]
  go_wp2
  rw [rounds_succ]
  go_wp2
  rw [rounds_succ]
  go_wp2
  go_ret
  refine ⟨_, rfl, (Fr.refl _ w).alloc _, ?_⟩
  have e0 : Value.int IntKind.u8 ((u : Int) / 16777216 % 256) = bv (UInt8.ofNat (u / 256 ^ 3)) := bvn u 16777216
  have e1 : Value.int IntKind.u8 ((u : Int) / 65536 % 256) = bv (UInt8.ofNat (u / 256 ^ 2)) := bvn u 65536
  have e2 : Value.int IntKind.u8 ((u : Int) / 256 % 256) = bv (UInt8.ofNat (u / 256 ^ 1)) := bvn u 256
  have e3 : Value.int IntKind.u8 ((u : Int) % 256) = bv (UInt8.ofNat (u / 256 ^ 0)) := by rw [bvn1]; simp
  rw [e0, e1, e2, e3]
  exact World.ownsRow_lit w #[bv (UInt8.ofNat (u / 256 ^ 3)), bv (UInt8.ofNat (u / 256 ^ 2)), bv (UInt8.ofNat (u / 256 ^ 1)), bv (UInt8.ofNat (u / 256 ^ 0))] 4 (Nat.le_refl _) (by unfold maxLen; omega) rfl
theorem mkb8 (w : World) : (Instr.makeSlice 30 (.int .i64 8) (.int .i64 8)).run Tryz.prog w = .ok (.slice (some ⟨w.heap.size, 0, none⟩) 8 8) (w.alloc (.cells #[.int .u8 0, .int .u8 0, .int .u8 0, .int .u8 0, .int .u8 0, .int .u8 0, .int .u8 0, .int .u8 0] 5)) := by kernel_rfl
theorem big8_calls (u : Nat) (hu : u < 18446744073709551616) (w : World) : Calls Tryz.prog 106 #[.int .u64 (u : Int), .int .i64 8] w fun e w' => ∃ v', e = .returned v' ∧ Fr C0 w w' ∧ w'.ownsRow w.heap.size 5 1 v' 8 ((bigB u 8).map bv) := by
  have hm := mkb8
  go_enter Tryz.func106, Tryz.ntmps106
  go_wp2
  refine wp_loop_rounds 9 ?_; rw [rounds_succ]
  go_wp2
  rw [rounds_succ]
  go_wp2
  rw [rounds_succ]
  go_wp2
  rw [rounds_succ]
  go_wp2
  rw [rounds_succ]
  go_wp2
  rw [rounds_succ]
  go_wp2
  rw [rounds_succ]
  go_wp2
  rw [rounds_succ]
  go_wp2
  rw [rounds_succ]
  go_wp2
  go_ret
  refine ⟨_, rfl, (Fr.refl _ w).alloc _, ?_⟩
  have e0 : Value.int IntKind.u8 ((u : Int) / 72057594037927936) = bv (UInt8.ofNat (u / 256 ^ 7)) := by rw [← bvn u 72057594037927936]; congr 1; omega
  have e1 : Value.int IntKind.u8 ((u : Int) / 281474976710656 % 256) = bv (UInt8.ofNat (u / 256 ^ 6)) := bvn u 281474976710656
  have e2 : Value.int IntKind.u8 ((u : Int) / 1099511627776 % 256) = bv (UInt8.ofNat (u / 256 ^ 5)) := bvn u 1099511627776
  have e3 : Value.int IntKind.u8 ((u : Int) / 4294967296 % 256) = bv (UInt8.ofNat (u / 256 ^ 4)) := bvn u 4294967296
  have e4 : Value.int IntKind.u8 ((u : Int) / 16777216 % 256) = bv (UInt8.ofNat (u / 256 ^ 3)) := bvn u 16777216
  have e5 : Value.int IntKind.u8 ((u : Int) / 65536 % 256) = bv (UInt8.ofNat (u / 256 ^ 2)) := bvn u 65536
  have e6 : Value.int IntKind.u8 ((u : Int) / 256 % 256) = bv (UInt8.ofNat (u / 256 ^ 1)) := bvn u 256
  have e7 : Value.int IntKind.u8 ((u : Int) % 256) = bv (UInt8.ofNat (u / 256 ^ 0)) := by rw [bvn1]; simp
  rw [e0, e1, e2, e3, e4, e5, e6, e7]
  exact World.ownsRow_lit w #[bv (UInt8.ofNat (u / 256 ^ 7)), bv (UInt8.ofNat (u / 256 ^ 6)), bv (UInt8.ofNat (u / 256 ^ 5)), bv (UInt8.ofNat (u / 256 ^ 4)), bv (UInt8.ofNat (u / 256 ^ 3)), bv (UInt8.ofNat (u / 256 ^ 2)), bv (UInt8.ofNat (u / 256 ^ 1)), bv (UInt8.ofNat (u / 256 ^ 0))] 8 (Nat.le_refl _) (by unfold maxLen; omega) rfl
theorem small_calls {F : Nat → Prop} {w : World} {v : Value} {l : List UInt8} (hl : BytesAt F w v l) (h8 : l.length ≤ 8) :
    Calls Tryz.prog 114 #[v] w fun e w' => e = .returned (.int .u64 (smallN l : Int)) ∧ w = w' := by
  obtain ⟨A, c, rfl, h1, h2, h3⟩ := hl
  have H3 := Lib.hid h3
  clear h3
  go_enter Tryz.func114, Tryz.ntmps114
  go_wp2
  go_loopw [3, 5, 8] (fun a b i wr => ∃ k : Nat, k ≤ l.length ∧ a = .int .u64 (smallN (l.take k) : Int) ∧ i = .int .i64 (k : Int) ∧ wr = w) (fun _ _ i _ => l.length - (intOf i).toNat)
  case atStart => exact ⟨0, Nat.zero_le _, rfl, rfl, rfl⟩
  case round =>
    obtain ⟨k, hk, rfl, rfl, rfl⟩ := hrel
    by_cases hlt : k < l.length
    · obtain ⟨g, o, rfl, hFg, hc⟩ := H3.out (by intro h; subst h; simp at hlt)
      have c1 := hc k hlt
      have hsm := smallN_lt (l.take k)
      clear H3 hc
      have c1' : wr.cell? ⟨g, o + k, none⟩ = some (.int .u8 (l[k].toNat : Int)) := c1
      have hx := smallN_lt (l.take (k + 1))
      rw [List.take_succ_eq_append_getElem hlt, smallN_snoc] at hx
      have h9 : 256 ^ (l.take k ++ [l[k]]).length ≤ 256 ^ 8 := Nat.pow_le_pow_right (by omega) (by simp; omega)
      have hy := l[k].toNat_lt
      clear c1 hsm
      have e1 : IntKind.u64.wrap ((smallN (l.take k) : Int) * 256) = (smallN (l.take k) : Int) * 256 := wraps_u64 _ (by omega) (by omega)
      have e2 : bits .or .u64 ((smallN (l.take k) : Int) * 256) (l[k].toNat : Int) = ((smallN (l.take (k + 1)) : Nat) : Int) := by
        rw [hb_or64 (by omega) (by omega) (by omega) (by omega), List.take_succ_eq_append_getElem hlt, smallN_snoc]; omega
      have E2 := Lib.hid e2
      clear e2
      go_wp2
      go_roundw
      case rel => exact ⟨k + 1, by omega, by rw [E2.out], by go_num, trivial⟩
      case measure => simp [intOf]; omega
    · obtain rfl : k = l.length := by omega
      clear H3
      go_wp2
      go_ret
      rw [List.take_length]
      exact ⟨rfl, rfl⟩
end
end Go.Proofs.YtcmicdcikechkaaGreat
namespace Go.H
open Go.RowKit
section
def bodyB (l : Bs) : Bs := bigB l.length 2 ++ l ++ List.replicate (8186 - l.length) 0
theorem bodyB_length {l : Bs} (h : l.length ≤ 8186) : (bodyB l).length = 8188 := by simp [bodyB, bigB_length]; omega
def pageB (l : Bs) : Bs := bigB (crc (bodyB l)).toNat 4 ++ bodyB l
theorem pageB_length {l : Bs} (h : l.length ≤ 8186) : (pageB l).length = 8192 := by simp [pageB, bigB_length, bodyB_length h]
theorem splice2 {n : Nat} {a l : Bs} (ha : a.length = 2) (hn : 6 + l.length ≤ n) : splice (splice (zerosV n) 4 (a.map bv)) 6 (l.map bv) = (List.replicate 4 0 ++ (a ++ l ++ List.replicate (n - 6 - l.length) 0)).map bv := by
  have e1 : splice (zerosV n) 4 (a.map bv) = (List.replicate 4 0 ++ a ++ List.replicate (n - 6) 0).map bv := by
    simp only [splice, zerosV, ← List.map_take, ← List.map_drop, List.take_replicate, List.drop_replicate, List.length_map, ha, List.map_append]
    rw [Nat.min_eq_left (by omega), List.append_assoc]
  rw [e1]
  simp only [splice, ← List.map_take, ← List.map_drop, List.length_map, ← List.map_append]
  congr 1
  rw [List.take_append_of_le_length (by simp [ha]), List.take_of_length_le (by simp [ha])]
  rw [show 6 + l.length = (List.replicate 4 (0 : UInt8) ++ a).length + l.length by simp [ha], List.drop_append, List.drop_replicate]
  simp [ha, Nat.sub_sub, Nat.add_comm]
theorem splice0 {a l : Bs} {z : Bs} (h : a.length = z.length) : splice ((z ++ l).map bv) 0 (a.map bv) = (a ++ l).map bv := by
  simp only [splice, List.take_zero, List.nil_append, Nat.zero_add, List.length_map, h, ← List.map_drop, List.drop_left', ← List.map_append]
theorem body_splice {l : Bs} (h : l.length ≤ 8186) : splice (splice (zerosV 8192) 4 ((bigB l.length 2).map bv)) 6 (List.take (min l.length 8186) (l.map bv)) = (List.replicate 4 0 ++ bodyB l).map bv := by
  rw [Nat.min_eq_left h, List.take_of_length_le (by rw [List.length_map]; exact Nat.le_refl _), splice2 (bigB_length _ _) (by omega)]
  rfl
theorem page_splice {l : Bs} (h : l.length ≤ 8186) (a : Bs) (ha : a.length = 4) : splice ((List.replicate 4 0 ++ bodyB l).map bv) 0 (List.take (min 4 8192) (a.map bv)) = (a ++ bodyB l).map bv := by
  rw [show min 4 8192 = 4 from rfl, List.take_of_length_le (by rw [List.length_map, ha]; exact Nat.le_refl _), splice0 (by simp [ha])]
theorem cells_drop {F : Nat → Prop} {w : World} {g e : Nat} {z l : Bs} (hg : w.heap[g]? = some (.cells ((z ++ l).map bv).toArray e (0, 0))) (hF : F g) (hn : l.length ≤ maxLen) : BytesAt F w (.slice (some ⟨g, z.length, none⟩) l.length l.length) l :=
  ⟨_, l.length, rfl, Nat.le_refl _, hn, fun _ => ⟨g, z.length, rfl, hF, fun j hj => by
    rw [cell_of_row w g _ _ _ _ hg]
    simp [hj]⟩⟩
def headB (n root : Nat) : Bs := [104, 101, 97, 100] ++ bigB n 8 ++ bigB root 4 ++ bigB (n % 4294967296) 4
theorem headB_length (n root : Nat) : (headB n root).length = 20 := by simp [headB, bigB_length]
theorem and32 {x : Int} (h₀ : 0 ≤ x) (h₁ : x < 18446744073709551616) : bits .and .u64 x 4294967295 = x % 4294967296 := bits_mask .u64 64 (by decide) wraps_u64 32 (by decide) x h₀ h₁
theorem cells_sub {w : World} {g e o n c : Nat} {b : Bs} (hg : w.heap[g]? = some (.cells (b.map bv).toArray e (0, 0))) (ho : o + n ≤ b.length) (hc : n ≤ c) (hm : c ≤ maxLen) : BytesAt (fun x => x = g) w (.slice (some ⟨g, o, none⟩) n c) ((b.drop o).take n) := by
  have hl : ((b.drop o).take n).length = n := by rw [List.length_take, List.length_drop]; omega
  refine ⟨_, c, by rw [hl], by rw [hl]; exact hc, hm, fun _ => ⟨g, o, rfl, rfl, fun j hj => ?_⟩⟩
  rw [cell_of_row w g _ _ _ _ hg]
  rw [hl] at hj
  simp [List.getElem_take, List.getElem_drop, show o + j < b.length by omega]
theorem cells_all {w : World} {g e : Nat} {b : Bs} (hg : w.heap[g]? = some (.cells (b.map bv).toArray e (0, 0))) (hm : b.length ≤ maxLen) : BytesAt (fun x => x = g) w (.slice (some ⟨g, 0, none⟩) b.length b.length) b := by
  have := cells_sub (o := 0) (n := b.length) (c := b.length) hg (by omega) (Nat.le_refl _) hm
  simpa using this
def headOf (b : Bs) : Nat × Nat := (smallN ((b.drop 4).take 8), smallN ((b.drop 12).take 4))
def zeroB (b : Bs) : Bool := decide (b = List.replicate b.length 0)
def headFine (b : Bs) (blocks : Nat) : Bool := decide (b.take 20 = headB (headOf b).1 (headOf b).2) && zeroB (b.drop 20) && decide ((headOf b).1 ≤ 4611686018427387904) && decide ((headOf b).2 ≠ 1) && decide ((headOf b).2 < blocks) && (decide ((headOf b).1 ≠ 0) || decide ((headOf b).2 = 0))
def readHeadF (b : Bs) (blocks : Nat) : (Nat × Nat) × Bool := if zeroB b then ((0, 0), true) else (headOf b, headFine b blocks)
def pageLen (b : Bs) : Nat := smallN ((b.drop 4).take 2)
def pageOf (b : Bs) : Option Bs :=
  if 8186 < pageLen b then none
  else if zeroB (b.drop (6 + pageLen b)) = false then none
  else if crc (b.drop 4) = (smallN (b.take 4) : Int) then some ((b.drop 6).take (pageLen b)) else none
theorem pageOf_pageB {l : Bs} (h : l.length ≤ 8186) : pageOf (pageB l) = some l := by
  have hb4 : (bigB (crc (bodyB l)).toNat 4).length = 4 := bigB_length _ _
  have hd4 : (pageB l).drop 4 = bodyB l := by rw [pageB, List.drop_append_of_le_length (by omega), List.drop_of_length_le (by omega)]; rfl
  have ht4 : (pageB l).take 4 = bigB (crc (bodyB l)).toNat 4 := by rw [pageB, List.take_append_of_le_length (by omega), List.take_of_length_le (by omega)]
  have hb2 : (bigB l.length 2).length = 2 := bigB_length _ _
  have hpl : pageLen (pageB l) = l.length := by
    rw [pageLen, hd4, bodyB, List.append_assoc, List.take_append_of_le_length (by omega), List.take_of_length_le (by omega), small_big]
    exact Nat.mod_eq_of_lt (by omega)
  have hd6 : (pageB l).drop 6 = l ++ List.replicate (8186 - l.length) 0 := by
    rw [show 6 = 4 + 2 from rfl, ← List.drop_drop, hd4, bodyB, List.append_assoc, List.drop_append_of_le_length (by omega), List.drop_of_length_le (by omega)]; rfl
  have hd7 : (pageB l).drop (6 + l.length) = List.replicate (8186 - l.length) 0 := by
    rw [← List.drop_drop, hd6, List.drop_append_of_le_length (Nat.le_refl _), List.drop_of_length_le (Nat.le_refl _)]; rfl
  have hz : zeroB (List.replicate (8186 - l.length) 0) = true := by unfold zeroB; rw [List.length_replicate]; simp
  obtain ⟨u1, u2⟩ := crc_u (bodyB l)
  unfold pageOf
  rw [hpl, hd7, hd6, hd4, ht4, small_big, hz, if_neg (by omega), if_neg (by simp), if_pos]
  · rw [List.take_append_of_le_length (Nat.le_refl _), List.take_of_length_le (Nat.le_refl _)]
  · rw [Nat.mod_eq_of_lt (by omega)]; omega
end
end Go.H
