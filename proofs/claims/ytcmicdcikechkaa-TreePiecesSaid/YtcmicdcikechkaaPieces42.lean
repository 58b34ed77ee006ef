/- TreePieces returns true for every input, and leaves what came in as it was. No condition. -/
import Derived.Test.YtcmicdcikechkaaPieces01
import Derived.Test.YtcmicdcikechkaaPieces41
set_option linter.all false
section
namespace Go.Proofs.Ytcmicdcikechkaa
open Go.RowKit Go.H Go.ChangeShapes Go.WideShapes Go.ChangeAt Go.Deep
theorem u8_of {n : Int} (h : (Lit.int .u8 n).wf = true) : Value.int .u8 n = bv (UInt8.ofNat n.toNat) := by
  have : 0 ≤ n ∧ n ≤ 255 := by simpa [Lit.wf, IntKind.min, IntKind.max, IntKind.signed, IntKind.bits] using h
  unfold bv
  congr 1
  have h2 : (UInt8.ofNat n.toNat).toNat = n.toNat % 2 ^ 8 := UInt8.toNat_ofNat'
  rw [h2]
  omega
theorem bytes_in {w : World} {A : Option Addr} {L C : Nat} {zs : List Int} (h1 : L ≤ C) (h2 : C ≤ maxLen) (h3 : zs.length = C) (hw : ∀ n ∈ zs, (Lit.int .u8 n).wf = true) (h0 : A = none → C = 0) (hc : ∀ a, A = some a → ∀ c, c < C → w.cell? (a.add c) = some (.int .u8 (zs.getD c 0))) : BytesAt (fun _ => True) w (.slice A L C) ((zs.take L).map fun n => UInt8.ofNat n.toNat) := by
  refine ⟨A, C, by simp [h3, Nat.min_eq_left h1], by simp [h3]; omega, h2, fun hne => ?_⟩
  have hL : 0 < L := by
    apply Nat.pos_of_ne_zero
    rintro rfl
    exact hne (by simp)
  cases A with
  | none => exact absurd (h0 rfl) (by omega)
  | some a =>
    have hz := hc a rfl 0 (by omega)
    obtain ⟨g, o, sp⟩ := a
    have hsp : sp = none := by simpa [Addr.add] using World.cell?_spot hz
    subst hsp
    refine ⟨g, o, rfl, trivial, fun j hj => ?_⟩
    have hj' : j < L := by simp [h3] at hj; omega
    have hcj := hc _ rfl j (by omega)
    rw [add_plain] at hcj
    rw [hcj]
    have hjz : j < zs.length := by omega
    simp only [List.getElem_map, List.getElem_take]
    have e2 : zs.getD j 0 = zs[j] := by simp [List.getD, List.getElem?_eq_getElem hjz]
    rw [e2]
    congr 1
    exact u8_of (hw _ (List.getElem_mem hjz))
section
variable {H : Type} {enc : TypeId × Value → H} {P : Program} {w : World} {base : Nat}
theorem open_bytes {t e : TypeId} {v : Value} {d : DataW H} {ps : List MemPlace} (ht : P.underlying t = some (.slice e)) (he : P.underlying e = some (.int .u8)) (hc : P.cellsOf e = 1) (hv : Value.okWide P w .any base t v) (h : DataW.Trod enc P w 0 (fun _ => true) true t v d ps) : ∃ l, BytesAt (fun _ => True) w v l := by
  obtain ⟨a, len, cap, rfl⟩ := okWide_slice ht hv
  obtain ⟨fuel, hf⟩ := h
  rcases open_ints ht he hc hf with ⟨hcs, -⟩ | ⟨a', len', cap', zs, hcs, hb, hl, hm, hz, hx, hcell, hwz⟩
  · simp [Value.cells] at hcs
    obtain ⟨rfl, rfl, rfl⟩ := hcs
    exact ⟨[], none, 0, rfl, Nat.le_refl _, Nat.zero_le _, fun h => absurd rfl h⟩
  · simp [Value.cells] at hcs
    obtain ⟨rfl, rfl, rfl⟩ := hcs
    simp only [if_true] at hz
    exact ⟨_, bytes_in (zs := zs) hl hm hz hwz (fun h => by cases h) (fun a' e c hc => by cases e; exact hcell c (by omega))⟩
theorem open_keys {t e q : TypeId} {v : Value} {d : DataW H} {ps : List MemPlace} (ht : P.underlying t = some (.slice e)) (he : P.underlying e = some (.slice q)) (hq : P.underlying q = some (.int .u8)) (ce : P.cellsOf e = 1) (cq : P.cellsOf q = 1) (hv : Value.okWide P w .any base t v) (h : DataW.Trod enc P w 0 (fun _ => true) true t v d ps) : ∃ ks, KeysAt w v ks := by
  obtain ⟨a, len, cap, rfl⟩ := okWide_slice ht hv
  obtain ⟨fuel, hf⟩ := h
  rcases open_int_rows ht he hq ce cq hf with ⟨hcs, -⟩ | ⟨a', len', cap', A, L, C, Z, hcs, hb, hl, hm, hx, hrows⟩
  · simp [Value.cells] at hcs
    obtain ⟨rfl, rfl, rfl⟩ := hcs
    exact ⟨[], none, 0, rfl, Nat.le_refl _, Nat.zero_le _, fun i h => absurd h (by simp)⟩
  · simp [Value.cells] at hcs
    obtain ⟨rfl, rfl, rfl⟩ := hcs
    refine ⟨(List.range len).map fun r => ((Z r).take (L r)).map fun n => UInt8.ofNat n.toNat, some a', cap, by simp, by simpa using hl, hm, fun i hi => ?_⟩
    have hi' : i < len := by simpa using hi
    obtain ⟨h1, h2, h3, h4, h5, h6, h7⟩ := hrows i (by omega)
    obtain ⟨g, o, sp⟩ := a'
    have hsp : sp = none := by
      simpa [Addr.add] using World.cell?_spot (hrows 0 (by omega)).1
    subst hsp
    rw [add_plain] at h1
    refine ⟨g, o, _, rfl, h1, ?_⟩
    have := bytes_in (w := w) h2 h3 h4 h5 h6 (fun a e c hc => (h7 a e).2 c hc)
    simpa using this
end
theorem own_none : ownKnob Try.prog.godebug = none := by kernel_rfl
theorem laid_out : laidOutB Try.prog = true := by kernel_rfl
theorem cells5 : Try.prog.cellsOf 5 = 1 := by kernel_rfl
theorem cells23 : Try.prog.cellsOf 23 = 1 := by kernel_rfl
set_option maxRecDepth 100000 in
theorem pieces_lifted (os : Os) (started : os.Started) (H : Type) (enc : TypeId × Value → H) :
    ReturnsInHanded {} Try.checked os 3 .any (Rows.treePiecesSpec.pre6 enc Try.prog Try.f3 Rows.treePiecesRow.domain false) (Rows.treePiecesSpec.post enc Try.prog Try.f3 false true false false) := by
  refine returnsInHanded_of_change (C := Try.checked) own_none started (by kernel_rfl) Try.func3
    (ChangeSpec.witness6 (enc := enc) (C := Try.checked) false ⟨#[], #[.slice none 0 0, .slice none 0 0, .int .i64 0], []⟩ 8 (by kernel_rfl) (by kernel_rfl) (by kernel_rfl) (by kernel_rfl)) ?_
  intro W base args ds gs before hval0 hW hcnd _
  have hval : ∀ (j : Nat) t v, (Try.f3).params[j]? = some t → args[j]? = some v → Value.okWide Try.prog W .any base t v := hval0
  have hW' := hW
  obtain ⟨p, q, hA0, hV, rfl, hfz, hnd⟩ := hW
  have hA : DataW.TrodAll enc Try.prog W 0 (fun _ => true) true (Try.f3).params.toList args.toList ds p := hA0
  rw [Try.params3] at hA hval
  obtain ⟨v0, vs0, d0, ds0, p0, q0, hargs, rfl, rfl, h0, r0⟩ := trodAll_cons hA
  obtain ⟨v1, vs1, d1, ds1, p1, q1, rfl, rfl, rfl, h1, r1⟩ := trodAll_cons r0
  obtain ⟨v2, vs2, d2, ds2, p2, q2, rfl, rfl, rfl, h2, r2⟩ := trodAll_cons r1
  obtain ⟨rfl, rfl, rfl⟩ := trodAll_nil r2
  obtain rfl : args = #[v0, v1, v2] := by cases args; simp_all
  obtain ⟨rfl, rfl⟩ := trodVars_none hV
  obtain ⟨ks, hk⟩ := open_keys Try.underlying22 Try.underlying23 Try.underlying5 cells23 cells5 (hval 0 22 v0 rfl rfl) h0
  obtain ⟨cut, hc⟩ := open_bytes Try.underlying23 Try.underlying5 cells5 (hval 1 23 v1 rfl rfl) h1
  obtain ⟨m, rfl, rfl, rfl, wm⟩ := open_int Try.underlying3 (hval 2 3 v2 rfl rfl) h2
  have hm : -9223372036854775808 ≤ m ∧ m ≤ 9223372036854775807 := by simpa [Lit.wf, IntKind.min, IntKind.max, IntKind.signed, IntKind.bits] using wm
  refine (pieces_calls hk hc hm).mono fun e W' ⟨he, hf⟩ => ?_
  subst he
  exact ⟨_, rfl, law_post laid_out (by decide +kernel) rfl rfl Try.underlying4 hW' rfl hf⟩
theorem pieces_over : Rows.treePiecesRow.holds Try.pinned (OpenSpec.ofChange Rows.treePiecesSpec) :=
  OpenClaim.holds_of_wide 3 Try.f3 rfl rfl rfl rfl rfl rfl rfl ⟨rfl, rfl, rfl, rfl, rfl⟩ rfl rfl rfl rfl rfl (by kernel_rfl) Try.func3 (by kernel_rfl)
    (of_decide_eq_true (by kernel_rfl)) (by unfold Func.isWrapper; first | (rw [if_pos (by decide +kernel)]; kernel_rfl) | (rw [if_neg (by decide +kernel)]; exact ⟨rfl, rfl⟩))
    (fun os started H enc _ => pieces_lifted os started H enc)
theorem tree_pieces : Rows.TreePiecesSaid := pieces_over
end Go.Proofs.Ytcmicdcikechkaa
end
