import Derived.Test.YtcmicdcikechkaaPieces04
import Derived.Test.YtcmicdcikechkaaPieces03
set_option linter.all false
section
namespace Go.Proofs.Ytcmicdcikechkaa
open Go.RowKit Go.H
set_option maxHeartbeats 1000000
set_option maxRecDepth 100000
theorem flush_calls {F : Nat → Prop} {w : World} {d m : Nat} {ov : Value} {s : DSt} (h : DiskA F w d m ov s) (hd : s.down = false) (ha : s.after < 1) (hF : ∀ b, w.heap.size ≤ b → F b) (hm : ¬ F m) (hdF : ¬ F d) (hdm : d ≠ m) (hom : ∀ b, ov.ownBlock = some b → b ≠ m) (hod : ∀ b, ov.ownBlock = some b → b ≠ d) :
    Calls Try.prog 69 #[.pointer (some ⟨d, 0, none⟩)] w fun e w' => e = .returned (.int .i64 0) ∧ DiskA F w' d m (.slice none 0 0) s.flush ∧ Fr (fun b => b = m ∨ b = d) w w' := by
  have HS := Lib.hid (strikes0_calls h ha)
  have HD := Lib.hid h
  have h3 := blk_cell h.blk 3 rfl
  have h2 := blk_cell h.blk 2 rfl
  obtain ⟨xs, o1, o2⟩ := h.opn
  have HR := Lib.hid (Row.ofOwn o1 (F := fun b => b < w.heap.size ∧ b ≠ m ∧ b ≠ d) (fun b hb => ⟨(o1.lt b hb).2, hom b hb, hod b hb⟩))
  have HO := Lib.hid o2
  have HOM := Lib.hid hom
  have hs := h.small
  obtain ⟨A, c, rfl, hc1, hc2⟩ := HR.out.form
  clear h o1 o2 hom
  rw [hd] at h3
  go_enter Try.func69, Try.ntmps69
  go_wp2_with fail
  refine HS.out.mono ?_
  rintro e w1 ⟨rfl, rfl⟩
  go_wp2
  go_loopw [18] (fun i wr => ∃ n : Nat, n ≤ s.opn.length ∧ i = .int .i64 (n : Int) ∧ Hid (DiskA F wr d m (.slice A s.opn.length c) (layAll s (s.opn.take n))) ∧ Hid (Fr (fun b => b = m) w wr)) (fun i _ => s.opn.length - (intOf i).toNat)
  case atStart => exact ⟨0, Nat.zero_le _, by go_num, HD, Lib.hid (Fr.refl _ _)⟩
  case round =>
    obtain ⟨n, hn, rfl, HDn, HF⟩ := hrel
    by_cases hlt : n < s.opn.length
    · obtain ⟨q1, v, q2, q3, q4⟩ := HO.out.at_ n hlt
      obtain ⟨g, o, rfl, hg, hc⟩ := HR.out.cells q1
      have r1 := HF.out.cell (hc _ _ q1) hg.2.1
      have r2 : wr.cell? ⟨g, o + n * 2 + 1, none⟩ = some v := HF.out.cell (hc _ _ q2) hg.2.1
      have q3' : BytesAt F wr v s.opn[n].2 := q3.fr HF.out (fun b hb h => hm (h ▸ hb))
      obtain ⟨vA, vc, rfl, -⟩ := id q3
      have HL := Lib.hid (lay_calls (HDn.out.fr0 ((Fr.refl C0 wr).alloc (.cells #[.int .i64 (s.opn[n].1 : Int), .slice vA s.opn[n].2.length vc] 111))) (q3'.fr0 ((Fr.refl C0 wr).alloc _)) q4 (n := 8192) (Nat.le_refl _) (k := s.opn[n].1) (fun b hb => hF b (by have := HF.out.size; simp at hb; omega)) hm hdm HOM.out)
      clear q1 q2 q3 q4 hc HO HR q3'
      go_wp2_with fail
      refine HL.out.mono ?_
      rintro e w' ⟨rfl, D2, f2⟩
      go_wp2
      go_roundw
      case rel => exact ⟨n + 1, by omega, by go_num, Lib.hid (by rw [layAll_take hlt]; exact D2), Lib.hid ((HF.out.alloc _).trans f2 (fun _ _ h => h))⟩
      case measure => simp [intOf]; omega
    · have e1 : n = s.opn.length := by omega
      subst e1
      clear HO HR
      have z := blk_free 2 HDn.out.blk
      have z1 := blk_cell HDn.out.blk 2 rfl
      go_wp2
      go_ret
      have hb := blk_set (i := 2) HDn.out.blk (.slice none 0 0)
      rw [List.take_length] at HDn hb
      have FS : Fr (fun b => b = d) wr (wr.setCell ⟨d, 2, none⟩ (.slice none 0 0)) := (Fr.refl (fun b => b = d) wr).setCell (.inr rfl) _
      refine ⟨rfl, ⟨?_, HDn.out.kept.fr FS (fun h => hdm h.symm) (fun b hb h => hdF (h ▸ hb)), ⟨[], World.ownsRow_nil _ _ _ _, .nil⟩, by simp [DSt.flush]⟩, (HF.out.mono (fun _ _ h => .inl h)).trans FS (fun _ _ h => .inr h)⟩
      simpa [DSt.flush] using hb
end Go.Proofs.Ytcmicdcikechkaa
end
section
namespace Go.H
open Go.RowKit
def U32 (x : Int) : Prop := 0 ≤ x ∧ x < 4294967296
theorem bits32 (b : BinOp) (x y : Int) : U32 (bits b .u32 x y) := by
  unfold U32 bits
  simp only [IntKind.wrap_u32]
  omega
def crcStep (r : Int) : Int := if bits .and .u32 r 1 = 1 then bits .xor .u32 (r / 2) 2197175160 else r / 2
theorem crcStep_u {r : Int} (h : U32 r) : U32 (crcStep r) := by
  unfold crcStep
  split
  · exact bits32 _ _ _
  · obtain ⟨h1, h2⟩ := h; constructor <;> omega
def crcN (i : Nat) : Nat → Int
  | 0 => i
  | n + 1 => crcStep (crcN i n)
theorem crcN_u {i : Nat} (h : i < 256) : ∀ n, U32 (crcN i n)
  | 0 => ⟨by simp [crcN], by simp [crcN]; omega⟩
  | n + 1 => crcStep_u (crcN_u h n)
def tab : Nat → Nat → Int
  | 0, i => crcN i 8
  | k + 1, i => bits .xor .u32 (tab k i / 256) (crcN (tab k i % 256).toNat 8)
theorem tab_u {i : Nat} (h : i < 256) : ∀ k, U32 (tab k i)
  | 0 => crcN_u h 8
  | k + 1 => bits32 _ _ _
def tabRow (k : Nat) : List Value := (List.range 256).map fun i => .int .u32 (tab k i)
theorem tabRow_length (k : Nat) : (tabRow k).length = 256 := by rw [tabRow, List.length_map, List.length_range]
theorem tabRow_get {k i : Nat} (h : i < 256) : (tabRow k)[i]? = some (.int .u32 (tab k i)) := by
  rw [tabRow, List.getElem?_map, List.getElem?_range h]; rfl
theorem wraps_u32' (n : Int) (h₀ : 0 ≤ n) (h₁ : n < 2 ^ 32) : IntKind.u32.wrap n = n := by
  rw [IntKind.wrap_u32]
  have : (2 : Int) ^ 32 = 4294967296 := by decide
  omega
theorem and255 {x : Int} (h : U32 x) : bits .and .u32 x 255 = x % 256 := bits_mask .u32 32 (by decide) wraps_u32' 8 (by decide) x h.1 h.2
def crcByte (r : Int) (c : UInt8) : Int := bits .xor .u32 (r / 256) (tab 0 (bits .xor .u8 (r % 256) (c.toNat : Int)).toNat)
def crc4in (r : Int) (a b c d : UInt8) : Int := bits .xor .u32 r (bits .or .u32 (bits .or .u32 (bits .or .u32 (a.toNat : Int) ((b.toNat : Int) * 256)) ((c.toNat : Int) * 65536)) ((d.toNat : Int) * 16777216))
def crc4out (r : Int) : Int := bits .xor .u32 (bits .xor .u32 (bits .xor .u32 (tab 3 (r % 256).toNat) (tab 2 (r / 256 % 256).toNat)) (tab 1 (r / 65536 % 256).toNat)) (tab 0 (r / 16777216).toNat)
def crcAll (r : Int) : List UInt8 → Int
  | a :: b :: c :: d :: l => crcAll (crc4out (crc4in r a b c d)) l
  | a :: l => crcAll (crcByte r a) l
  | [] => r
def crc (l : List UInt8) : Int := bits .xor .u32 IntKind.u32.max (crcAll 4294967295 l)
theorem crc_u (l : List UInt8) : U32 (crc l) := bits32 _ _ _
theorem crcAll_one (x : Int) (a : UInt8) (l : List UInt8) (h : l.length ≤ 2) : crcAll x (a :: l) = crcAll (crcByte x a) l := by
  match l, h with
  | [], _ => rfl
  | [b], _ => rfl
  | [b, c], _ => rfl
theorem bits8 (b : BinOp) (x y : Int) : 0 ≤ bits b .u8 x y ∧ bits b .u8 x y < 256 := by
  unfold bits
  simp only [IntKind.wrap_u8]
  omega
end Go.H
end
section
namespace Go.Proofs.Ytcmicdcikechkaa
open Go.RowKit Go.H
set_option maxHeartbeats 1000000
set_option maxRecDepth 100000
theorem index_row {w : World} {n : Nat} {v : Value} {cs : List Value} (hn : n < 256) (h : cs[n]? = some v) (h1 : v.oneCell' = true) : (Instr.index 170 (.agg cs.toArray) (.int .i64 (n : Int))).run Try.prog w = .ok v w := by
  have e1 : (0 : Int) ≤ (n : Int) ∧ (n : Int) < ((256 : Nat) : Int) := by omega
  have e2 : (sizeOf 160).run Try.prog w = .ok 1 w := by kernel_rfl
  have e3 : (isAgg 160).run Try.prog w = .ok false w := by kernel_rfl
  simp [Instr.index, run_underlying Try.underlying170, asIntOf, go_sem, e1, e2, e3, h, Sem.run_bind]
  omega
end Go.Proofs.Ytcmicdcikechkaa
end
section
namespace Go.Proofs.Ytcmicdcikechkaa
open Go.RowKit Go.H
set_option maxHeartbeats 1000000
set_option maxRecDepth 100000
theorem fill_calls {w : World} {g : Nat} {cs : Array Value} (hg : w.heap[g]? = some (.cells cs 172 (0, 0))) (hn : cs.size = 1024) :
    Calls Try.prog 107 #[.pointer (some ⟨g, 0, none⟩)] w fun e w' => e = .returned (.tuple #[]) ∧ Fr (fun b => b = g) w w' ∧ ∃ cs', w'.heap[g]? = some (.cells cs' 172 (0, 0)) ∧ ∀ k i, k < 4 → i < 256 → cs'[k * 256 + i]? = some (.int .u32 (tab k i)) := by
  go_enter Try.func107, Try.ntmps107
  go_wp2
  go_loopw [2, 3, 4, 8, 13] (fun a b c i j wr => ∃ (n : Nat) (cs' : Array Value), n ≤ 256 ∧ i = .int .i64 (n : Int) ∧ Hid (Fr (fun b => b = g) w wr) ∧ Hid (cs'.size = 1024) ∧ Hid (wr.heap[g]? = some (.cells cs' 172 (0, 0))) ∧ Hid (∀ i : Nat, i < n → cs'[i]? = some (.int .u32 (tab 0 i)))) (fun _ _ _ i _ _ => 256 - (intOf i).toNat)
  case atStart => exact ⟨0, cs, by omega, rfl, Lib.hid (Fr.refl _ _), Lib.hid hn, Lib.hid hg, Lib.hid (fun i h => absurd h (by omega))⟩
  case round =>
    obtain ⟨n, cs', hn', rfl, HF, HS, HG, HT⟩ := hrel
    by_cases hlt : n < 256
    · go_wp2
      go_loopw [3, 4, 13] (fun a b j wr2 => ∃ m : Nat, m ≤ 8 ∧ a = .int .u32 (crcN n m) ∧ j = .int .i64 (m : Int) ∧ wr2 = wr) (fun _ _ j _ => 8 - (intOf j).toNat)
      case atStart => exact ⟨0, by omega, by simp [crcN], rfl, rfl⟩
      case round =>
        obtain ⟨m, hm, rfl, rfl, rfl⟩ := hrel
        by_cases hl8 : m < 8
        · have hc : crcN n (m + 1) = crcStep (crcN n m) := rfl
          have hu := crcN_u hlt m
          unfold crcStep at hc
          by_cases hb : bits .and .u32 (crcN n m) 1 = 1
          · rw [if_pos hb] at hc
            go_wp2
            go_roundw
            case rel => exact ⟨m + 1, by omega, by rw [hc], by go_num, trivial⟩
            case measure => simp [intOf]; omega
          · rw [if_neg hb] at hc
            go_wp2
            go_roundw
            case rel => exact ⟨m + 1, by omega, by rw [hc], by go_num, trivial⟩
            case measure => simp [intOf]; omega
        · obtain rfl : m = 8 := by omega
          have z := blk_free n HG.out
          have z1 : wr.cell? ⟨g, n, none⟩ = cs'[n]? := cell_of_row wr g n _ _ _ HG.out
          rw [Array.getElem?_eq_getElem (by rw [HS.out]; omega)] at z1
          have hT := HT.out
          have hS := HS.out
          go_wp2
          go_roundw
          case rel =>
            refine ⟨n + 1, cs'.setIfInBounds n (.int .u32 (crcN n 8)), by omega, by go_num, Lib.hid (HF.out.trans ((Fr.refl (fun b => b = g) wr).setCell (.inr rfl) _) (fun _ _ h => h)), Lib.hid (by simp [hS]), Lib.hid (blk_set HG.out _), Lib.hid fun i hi => ?_⟩
            rw [Array.getElem?_setIfInBounds]
            by_cases hin : n = i
            · subst hin; rw [if_pos rfl, if_pos (by omega)]; rfl
            · rw [if_neg hin]; exact hT i (by omega)
          case measure => simp [intOf]; omega
    · obtain rfl : n = 256 := by omega
      go_wp2
      go_loopw [5, 6, 7, 41] (fun a b c j wr2 => ∃ (k : Nat) (cs' : Array Value), 1 ≤ k ∧ k ≤ 4 ∧ a = .int .i64 (k : Int) ∧ Hid (Fr (fun b => b = g) w wr2) ∧ Hid (cs'.size = 1024) ∧ Hid (wr2.heap[g]? = some (.cells cs' 172 (0, 0))) ∧ Hid (∀ k2 i : Nat, k2 < k → i < 256 → cs'[k2 * 256 + i]? = some (.int .u32 (tab k2 i)))) (fun a _ _ _ _ => 4 - (intOf a).toNat)
      case atStart => exact ⟨1, cs', by omega, by omega, rfl, HF, HS, HG, Lib.hid (fun k2 i hk hi => by rw [show k2 = 0 by omega, Nat.zero_mul, Nat.zero_add]; exact HT.out i hi)⟩
      case round =>
        obtain ⟨k, cs', hk1, hk4, rfl, HF, HS, HG, HT⟩ := hrel
        by_cases hlt : k < 4
        · have hk : ∃ k', k = k' + 1 ∧ k' < 3 := ⟨k - 1, by omega, by omega⟩
          obtain ⟨k', rfl, hk3⟩ := hk
          clear hk1 hk4
          have hrow : wr.rangeAt g (k' * 256) (tabRow k') := by
            intro j v hj
            rw [cell_of_row wr g _ _ _ _ HG.out]
            by_cases hj2 : j < 256
            · rw [tabRow_get hj2] at hj
              rw [HT.out k' j (by omega) hj2]; exact hj
            · rw [List.getElem?_eq_none (by rw [tabRow_length]; omega)] at hj; cases hj
          have hsz : (Try.prog.info? 170).map (·.size) = some (tabRow k').length := by rw [tabRow_length]; kernel_rfl
          have HSZ := Lib.hid hsz
          clear hsz
          have HROW := Lib.hid hrow
          clear hrow
          go_wp2_with (go_loud (refine wpList_load_mid rfl 170 (.tmp 39) rfl g (k' * 256) rfl _ _ HROW.out Try.underlying170 rfl HSZ.out ?_))
          have HT1 := Lib.hid HT.out
          clear HROW
          go_loopw [6, 7, 41] (fun b c j wr2 => ∃ (n : Nat) (cs' : Array Value), n ≤ 256 ∧ j = .int .i64 (n : Int) ∧ Hid (Fr (fun b => b = g) w wr2) ∧ Hid (cs'.size = 1024) ∧ Hid (wr2.heap[g]? = some (.cells cs' 172 (0, 0))) ∧ Hid (∀ k2 i : Nat, k2 < k' + 1 ∨ (k2 = k' + 1 ∧ i < n) → i < 256 → cs'[k2 * 256 + i]? = some (.int .u32 (tab k2 i)))) (fun _ _ j _ => 256 - (intOf j).toNat)
          case atStart => exact ⟨0, cs', by omega, rfl, HF, HS, HG, Lib.hid (fun k2 i hk hi => HT.out k2 i (by omega) hi)⟩
          case round =>
            clear HF HS HG HT HT1
            obtain ⟨n, cs', hn', rfl, HF, HS, HG, HT⟩ := hrel
            by_cases hlt : n < 256
            · have hu := tab_u hlt k'
              have hix := tabRow_get (k := k') hlt
              have hidx := index_row (w := wr) hlt hix rfl
              go_wp2_with fail
              have h255 := and255 hu
              have hm : (tab k' n % 256).toNat < 256 := by omega
              have c0 : wr.cell? ⟨g, (tab k' n % 256).toNat, none⟩ = some (.int .u32 (tab 0 (tab k' n % 256).toNat)) := by
                rw [cell_of_row wr g _ _ _ _ HG.out]; simpa using HT.out 0 _ (by omega) hm
              have hp0 : 0 ≤ tab k' n % 256 := by omega
              have hp1 : tab k' n % 256 < 256 := by omega
              have hp2 : (0 : Int) ≤ (k' : Int) + 1 := by omega
              have z1 : wr.cell? ⟨g, (k' + 1) * 256 + n, none⟩ = cs'[(k' + 1) * 256 + n]? := cell_of_row wr g _ _ _ _ HG.out
              rw [Array.getElem?_eq_getElem (by rw [HS.out]; omega)] at z1
              have z0 := blk_free ((k' + 1) * 256 + n) HG.out
              refine wp_region_L (Fr C0 wr) [16] (by kernel_rfl) ?_
              have hSw0 : (Fr C0 wr) _ := (Fr.refl _ wr).drew
              refine wpAnyL_take 0 (oi := ⟨(some 45), (.move (.tmp 0)), 178, "wire.go:92", #[], none⟩) (v := ?v_1) rfl (by kernel_rfl) (fun _ _ _ h => h) hSw0 (yieldsIf_of rfl ?hy_1) ?hrest_1
              case hy_1 => (intro w_ hS_; (first | (go_simp; done) | (go_simp; with_reducible rfl)))
              try simp only [Act.put, List.setIfInBounds_toArray, List.set_cons_zero, List.set_cons_succ]
              refine wpAnyL_take 1 (oi := ⟨(some 46), (.move (.tmp 5)), 3, "wire.go:92", #[], none⟩) (v := ?v_2) rfl (by kernel_rfl) (fun _ _ _ h => h) hSw0 (yieldsIf_of rfl ?hy_2) ?hrest_2
              case hy_2 => (intro w_ hS_; (first | (go_simp; done) | (go_simp; with_reducible rfl)))
              try simp only [Act.put, List.setIfInBounds_toArray, List.set_cons_zero, List.set_cons_succ]
              refine wpAnyL_take 2 (oi := ⟨(some 47), (.move (.tmp 6)), 3, "wire.go:92", #[], none⟩) (v := ?v_3) rfl (by kernel_rfl) (fun _ _ _ h => h) hSw0 (yieldsIf_of rfl ?hy_3) ?hrest_3
              case hy_3 => (intro w_ hS_; (first | (go_simp; done) | (go_simp; with_reducible rfl)))
              try simp only [Act.put, List.setIfInBounds_toArray, List.set_cons_zero, List.set_cons_succ]
              refine wpAnyL_take 3 (oi := ⟨(some 48), (.move (.tmp 7)), 160, "wire.go:92", #[], none⟩) (v := ?v_4) rfl (by kernel_rfl) (fun _ _ _ h => h) hSw0 (yieldsIf_of rfl ?hy_4) ?hrest_4
              case hy_4 => (intro w_ hS_; (first | (go_simp; done) | (go_simp; with_reducible rfl)))
              try simp only [Act.put, List.setIfInBounds_toArray, List.set_cons_zero, List.set_cons_succ]
              refine wpAnyL_take 4 (oi := ⟨(some 49), (.binOp .shr 160 (.tmp 48) (.const (.int .u64 8)) 165), 160, "wire.go:92", #[⟨3, .data⟩], none⟩) (v := ?v_5) rfl (by kernel_rfl) (fun _ _ _ h => h) hSw0 (yieldsIf_of rfl ?hy_5) ?hrest_5
              case hy_5 => (intro w_ hS_; (first | (go_simp; done) | (go_simp; with_reducible rfl)))
              try simp only [Act.put, List.setIfInBounds_toArray, List.set_cons_zero, List.set_cons_succ]
              refine wpAnyL_take 5 (oi := ⟨(some 50), (.move (.tmp 0)), 178, "wire.go:92", #[], none⟩) (v := ?v_6) rfl (by kernel_rfl) (fun _ _ _ h => h) hSw0 (yieldsIf_of rfl ?hy_6) ?hrest_6
              case hy_6 => (intro w_ hS_; (first | (go_simp; done) | (go_simp; with_reducible rfl)))
              try simp only [Act.put, List.setIfInBounds_toArray, List.set_cons_zero, List.set_cons_succ]
              refine wpAnyL_take 6 (oi := ⟨(some 51), (.move (.tmp 7)), 160, "wire.go:92", #[], none⟩) (v := ?v_7) rfl (by kernel_rfl) (fun _ _ _ h => h) hSw0 (yieldsIf_of rfl ?hy_7) ?hrest_7
              case hy_7 => (intro w_ hS_; (first | (go_simp; done) | (go_simp; with_reducible rfl)))
              try simp only [Act.put, List.setIfInBounds_toArray, List.set_cons_zero, List.set_cons_succ]
              refine wpAnyL_take 7 (oi := ⟨(some 52), (.binOp .and 160 (.tmp 51) (.const (.int .u32 255)) 160), 160, "wire.go:92", #[⟨6, .data⟩], none⟩) (v := ?v_8) rfl (by kernel_rfl) (fun _ _ _ h => h) hSw0 (yieldsIf_of rfl ?hy_8) ?hrest_8
              case hy_8 => (intro w_ hS_; (first | (go_simp; done) | (go_simp; with_reducible rfl)))
              try simp only [Act.put, List.setIfInBounds_toArray, List.set_cons_zero, List.set_cons_succ]
              refine wpAnyL_take 8 (oi := ⟨(some 53), (.nilCheck (.tmp 50)), 0, "wire.go:92", #[⟨5, .data⟩], none⟩) (v := ?v_9) rfl (by kernel_rfl) (fun _ _ _ h => h) hSw0 (yieldsIf_of rfl ?hy_9) ?hrest_9
              case hy_9 => (intro w_ hS_; (first | (go_simp; done) | (go_simp; with_reducible rfl)))
              try simp only [Act.put, List.setIfInBounds_toArray, List.set_cons_zero, List.set_cons_succ]
              refine wpAnyL_take 9 (oi := ⟨(some 54), (.indexAddr 172 (.tmp 53) (.const (.int .i64 0))), 0, "wire.go:92", #[⟨8, .data⟩], none⟩) (v := ?v_10) rfl (by kernel_rfl) (fun _ _ _ h => h) hSw0 (yieldsIf_of rfl ?hy_10) ?hrest_10
              case hy_10 => (intro w_ hS_; (first | (go_simp; done) | (go_simp; with_reducible rfl)))
              try simp only [Act.put, List.setIfInBounds_toArray, List.set_cons_zero, List.set_cons_succ]
              refine wpAnyL_take 10 (oi := ⟨(some 55), (.indexAddr 170 (.tmp 54) (.tmp 52)), 0, "wire.go:92", #[⟨9, .data⟩, ⟨7, .data⟩], none⟩) (v := ?v_11) rfl (by kernel_rfl) (fun _ _ _ h => h) hSw0 (yieldsIf_of rfl ?hy_11) ?hrest_11
              case hy_11 => (intro w_ hS_; (first | (go_simp; done) | (go_simp; with_reducible rfl)))
              try simp only [Act.put, List.setIfInBounds_toArray, List.set_cons_zero, List.set_cons_succ]
              refine wpAnyL_take 11 (oi := ⟨(some 56), (.load 160 (.tmp 55)), 160, "wire.go:92", #[⟨10, .data⟩], none⟩) (v := ?v_12) rfl (by kernel_rfl) (fun _ _ _ h => h) hSw0 (yieldsIf_of rfl ?hy_12) ?hrest_12
              case hy_12 => (intro w_ hS_; have c1 := hS_.cell0 c0; (first | (go_simp; done) | (go_simp; with_reducible rfl)))
              try simp only [Act.put, List.setIfInBounds_toArray, List.set_cons_zero, List.set_cons_succ]
              refine wpAnyL_take 12 (oi := ⟨(some 57), (.binOp .xor 160 (.tmp 49) (.tmp 56) 160), 160, "wire.go:92", #[⟨4, .data⟩, ⟨11, .data⟩], none⟩) (v := ?v_13) rfl (by kernel_rfl) (fun _ _ _ h => h) hSw0 (yieldsIf_of rfl ?hy_13) ?hrest_13
              case hy_13 => (intro w_ hS_; (first | (go_simp; done) | (go_simp; with_reducible rfl)))
              try simp only [Act.put, List.setIfInBounds_toArray, List.set_cons_zero, List.set_cons_succ]
              refine wpAnyL_take 13 (oi := ⟨(some 58), (.nilCheck (.tmp 45)), 0, "wire.go:92", #[⟨0, .data⟩], none⟩) (v := ?v_14) rfl (by kernel_rfl) (fun _ _ _ h => h) hSw0 (yieldsIf_of rfl ?hy_14) ?hrest_14
              case hy_14 => (intro w_ hS_; (first | (go_simp; done) | (go_simp; with_reducible rfl)))
              try simp only [Act.put, List.setIfInBounds_toArray, List.set_cons_zero, List.set_cons_succ]
              refine wpAnyL_take 14 (oi := ⟨(some 59), (.indexAddr 172 (.tmp 58) (.tmp 46)), 0, "wire.go:92", #[⟨13, .data⟩, ⟨1, .data⟩], none⟩) (v := ?v_15) rfl (by kernel_rfl) (fun _ _ _ h => h) hSw0 (yieldsIf_of rfl ?hy_15) ?hrest_15
              case hy_15 => (intro w_ hS_; (first | (go_simp; done) | (go_simp; with_reducible rfl)))
              try simp only [Act.put, List.setIfInBounds_toArray, List.set_cons_zero, List.set_cons_succ]
              refine wpAnyL_take 15 (oi := ⟨(some 60), (.indexAddr 170 (.tmp 59) (.tmp 47)), 0, "wire.go:92", #[⟨14, .data⟩, ⟨2, .data⟩, ⟨0, .phase⟩, ⟨1, .phase⟩, ⟨2, .phase⟩, ⟨3, .phase⟩, ⟨4, .phase⟩, ⟨5, .phase⟩, ⟨6, .phase⟩, ⟨7, .phase⟩, ⟨8, .phase⟩, ⟨9, .phase⟩, ⟨10, .phase⟩, ⟨11, .phase⟩, ⟨12, .phase⟩], none⟩) (v := ?v_16) rfl (by kernel_rfl) (fun _ _ _ h => h) hSw0 (yieldsIf_of rfl ?hy_16) ?hrest_16
              case hy_16 => (intro w_ hS_; (first | (go_simp; done) | (go_simp; with_reducible rfl)))
              try simp only [Act.put, List.setIfInBounds_toArray, List.set_cons_zero, List.set_cons_succ]
              refine wpAnyL_late 16 (o := ⟨none, (.store 160 (.tmp 60) (.tmp 57)), 0, "wire.go:92", #[⟨15, .data⟩, ⟨12, .data⟩, ⟨0, .phase⟩, ⟨1, .phase⟩, ⟨2, .phase⟩, ⟨3, .phase⟩, ⟨4, .phase⟩, ⟨5, .phase⟩, ⟨6, .phase⟩, ⟨7, .phase⟩, ⟨8, .phase⟩, ⟨9, .phase⟩, ⟨10, .phase⟩, ⟨11, .phase⟩, ⟨12, .phase⟩], none⟩) rfl (by kernel_rfl) rfl (by kernel_rfl) (fun K hK => ?_)
              have z2 := hSw0.cell0 z1
              have z3 := (hSw0.frozen (World.block_lt_of_cell? wr _ z1) (fun h => h)).trans z0
              go_simp
              refine hK.out _ _ ?_; clear hK K
              try simp only [Act.put, List.setIfInBounds_toArray, List.set_cons_zero, List.set_cons_succ]
              refine wpAnyL_done (by kernel_rfl) ?_ _
              have hv : bits .xor .u32 (tab k' n / 256) (tab 0 (tab k' n % 256).toNat) = tab (k' + 1) n := rfl
              rw [hv]
              have hFS : Hid (Fr (fun b => b = g) w (wr.setCell ⟨g, (k' + 1) * 256 + n, none⟩ (.int .u32 (tab (k' + 1) n))).drew) := Lib.hid ((HF.out.trans ((Fr.refl (fun b => b = g) wr).setCell (.inr rfl) _) (fun _ _ h => h)).drew)
              have hGS : Hid ((wr.setCell ⟨g, (k' + 1) * 256 + n, none⟩ (.int .u32 (tab (k' + 1) n))).drew.heap[g]? = some (.cells (cs'.setIfInBounds ((k' + 1) * 256 + n) (.int .u32 (tab (k' + 1) n))) 172 (0, 0))) := Lib.hid (blk_set HG.out _)
              have hS := HS.out
              have hT := HT.out
              go_wp2
              refine ⟨?_, ?measure3⟩
              case' measure3 => simp [intOf]; omega
              refine ⟨n + 1, _, by omega, by go_num, hFS, Lib.hid (by simp [hS]), hGS, Lib.hid fun k2 i hk hi => ?_⟩
              rw [Array.getElem?_setIfInBounds]
              by_cases hin : (k' + 1) * 256 + n = k2 * 256 + i
              · rw [if_pos hin, if_pos (by omega)]
                obtain rfl : k2 = k' + 1 := by omega
                obtain rfl : i = n := by omega
                rfl
              · rw [if_neg hin]; exact hT k2 i (by omega) hi
            · obtain rfl : n = 256 := by omega
              go_wp2
              refine ⟨?_, ?measure2⟩
              case' measure2 => simp [intOf]; omega
              repeat apply Exists.intro
              refine ⟨?rel2, rfl⟩
              case' rel2 => exact ⟨k' + 1 + 1, cs', by omega, by omega, by go_num, HF, HS, HG, Lib.hid (fun k2 i hk hi => HT.out k2 i (by omega) hi)⟩
        · obtain rfl : k = 4 := by omega
          go_wp2
          go_end0
          exact ⟨rfl, HF.out, cs', HG.out, HT.out⟩
end Go.Proofs.Ytcmicdcikechkaa
end
