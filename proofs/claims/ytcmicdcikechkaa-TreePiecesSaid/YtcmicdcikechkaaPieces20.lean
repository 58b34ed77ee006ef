import Derived.Test.YtcmicdcikechkaaPieces17
import Derived.Test.YtcmicdcikechkaaPieces14
import Derived.Test.YtcmicdcikechkaaPieces03
set_option linter.all false
section
namespace Go.H
def inR (lo hi : List UInt8) (x : KV) : Bool := (decide (lo = []) || decide (bcmp lo x.1 ≤ 0)) && (decide (hi = []) || decide (bcmp x.1 hi < 0))
def rangeL (lo hi : List UInt8) (l : List KV) : List KV := l.filter (inR lo hi)
def addR (n : Nat) (out r : List KV) : List KV := out ++ r.take (n - out.length)
theorem addR_nil (n : Nat) (out : List KV) : addR n out [] = out := by simp [addR]
theorem addR_full {n : Nat} {out : List KV} (h : n ≤ out.length) (r : List KV) : addR n out r = out := by simp [addR, Nat.sub_eq_zero_of_le h]
theorem addR_add (n : Nat) (out a b : List KV) : addR n (addR n out a) b = addR n out (a ++ b) := by
  unfold addR
  rw [List.take_append, List.append_assoc]
  congr 2
  simp only [List.length_append, List.length_take]
  congr 1
  omega
theorem addR_one {n : Nat} {out : List KV} (h : out.length < n) (x : KV) : addR n out [x] = out ++ [x] := by
  unfold addR
  rw [List.take_of_length_le (by simp; omega)]
theorem rangeL_append (lo hi : List UInt8) (a b : List KV) : rangeL lo hi (a ++ b) = rangeL lo hi a ++ rangeL lo hi b := by simp [rangeL]
theorem rangeL_low {lo hi : List UInt8} {l : List KV} (h0 : lo ≠ []) (h : ∀ z ∈ l, bcmp z.1 lo < 0) : rangeL lo hi l = [] := by
  refine List.filter_eq_nil_iff.2 fun z hz => ?_
  have := h z hz
  have h2 := bcmp_swap z.1 lo
  have h3 : ¬ bcmp lo z.1 ≤ 0 := by omega
  simp [inR, h0, h3]
theorem rangeL_high {lo hi : List UInt8} {l : List KV} (h0 : hi ≠ []) (h : ∀ z ∈ l, bcmp hi z.1 ≤ 0) : rangeL lo hi l = [] := by
  refine List.filter_eq_nil_iff.2 fun z hz => ?_
  have := h z hz
  have h2 := bcmp_swap z.1 hi
  have h3 : ¬ bcmp z.1 hi < 0 := by omega
  simp [inR, h0, h3]
theorem interH_succ : ∀ {l : List KV} {fs : List (List KV)} {i : Nat} (h : i < l.length) (h2 : i < fs.length), interH (l.take (i + 1)) (fs.take (i + 1)) = interH (l.take i) (fs.take i) ++ (fs[i] ++ [l[i]])
  | [], _, _, h, _ => by simp at h
  | _ :: _, [], _, _, h => by simp at h
  | x :: l, f :: fs, 0, _, _ => by simp [interH]
  | x :: l, f :: fs, i + 1, h, h2 => by
    have := interH_succ (l := l) (fs := fs) (i := i) (by simpa using h) (by simpa using h2)
    simp [interH, this]
theorem node_cut {l : List KV} {fs : List (List KV)} {i : Nat} (h : fs.length = l.length + 1) (hs : Sorted (inter l fs)) (hi : i ≤ l.length) :
    inter l fs = interH (l.take i) (fs.take i) ++ ((fs[i]'(by omega)) ++ interT (l.drop i) (fs.drop (i + 1))) ∧ Sorted (fs[i]'(by omega)) ∧
      ∀ hl : i < l.length, (∀ z ∈ fs[i]'(by omega), klt z l[i]) ∧ ∀ z ∈ interT (l.drop i) (fs.drop (i + 1)), bcmp l[i].1 z.1 ≤ 0 := by
  have e : inter l fs = interH (l.take i) (fs.take i) ++ ((fs[i]'(by omega)) ++ interT (l.drop i) (fs.drop (i + 1))) := by
    have := inter_mid (l.drop i) (fs[i]'(by omega)) (fs.drop (i + 1)) (l1 := l.take i) (f1 := fs.take i) (by simp; omega)
    rw [← this, List.take_append_drop, ← List.drop_eq_getElem_cons, List.take_append_drop]
  rw [e] at hs
  have p := (List.pairwise_append.1 hs).2.1
  have p2 := List.pairwise_append.1 p
  refine ⟨e, p2.1, fun hl => ?_⟩
  have hd : interT (l.drop i) (fs.drop (i + 1)) = l[i] :: ((fs[i + 1]'(by omega)) ++ interT (l.drop (i + 1)) (fs.drop (i + 2))) := by
    rw [List.drop_eq_getElem_cons hl, List.drop_eq_getElem_cons (show i + 1 < fs.length by omega)]; rfl
  refine ⟨fun z hz => p2.2.2 z hz l[i] (by rw [hd]; simp), fun z hz => ?_⟩
  have p3 := p2.2.1
  rw [hd] at hz p3
  rcases List.mem_cons.1 hz with rfl | hz
  · rw [bcmp_self]; exact Int.le_refl _
  · exact Int.le_of_lt ((List.pairwise_cons.1 p3).1 z hz)
theorem interT_none : ∀ (l : List KV) (n : Nat), interT l (List.replicate n ([] : List KV)) = l.take n
  | [], n => by cases n <;> simp [interT, List.replicate]
  | x :: l, 0 => by simp [interT]
  | x :: l, n + 1 => by simp [interT, List.replicate, interT_none l n]
theorem inter_none (l : List KV) : inter l (List.replicate (l.length + 1) []) = l := by
  simp [inter, List.replicate, interT_none]
end Go.H
end
section
namespace Go.H
open Go.RowKit
inductive PairCells (F : Nat → Prop) (w : World) : List Value → List KV → Prop
  | nil : PairCells F w [] []
  | cons {x : KV} {kv vv : Value} {xs : List Value} {l : List KV} : BytesAt F w kv x.1 → BytesAt F w vv x.2 → PairCells F w xs l → PairCells F w (.int .i64 0 :: kv :: vv :: xs) (x :: l)
namespace PairCells
variable {F F' C : Nat → Prop} {w w' : World}
theorem fr (hf : Fr C w w') (hd : ∀ b, F b → ¬ C b) : ∀ {xs : List Value} {l : List KV}, PairCells F w xs l → PairCells F w' xs l
  | _, _, .nil => .nil
  | _, _, .cons h1 h2 h3 => .cons (h1.fr hf hd) (h2.fr hf hd) (fr hf hd h3)
theorem mono (hF : ∀ b, F b → b < w.heap.size → F' b) : ∀ {xs : List Value} {l : List KV}, PairCells F w xs l → PairCells F' w xs l
  | _, _, .nil => .nil
  | _, _, .cons h1 h2 h3 => .cons (h1.mono hF) (h2.mono hF) (mono hF h3)
theorem append {ys : List Value} {m : List KV} (k : PairCells F w ys m) : ∀ {xs : List Value} {l : List KV}, PairCells F w xs l → PairCells F w (xs ++ ys) (l ++ m)
  | _, _, .nil => k
  | _, _, .cons h1 h2 h3 => .cons h1 h2 (append k h3)
theorem length : ∀ {xs : List Value} {l : List KV}, PairCells F w xs l → xs.length = l.length * 3
  | _, _, .nil => rfl
  | _, _, .cons h1 h2 h3 => by have := length h3; simp only [List.length_cons]; omega
theorem at_ : ∀ {xs : List Value} {l : List KV} (i : Nat) (hi : i < l.length), PairCells F w xs l → ∃ kv vv, xs[i * 3]? = some (.int .i64 0) ∧ xs[i * 3 + 1]? = some kv ∧ xs[i * 3 + 2]? = some vv ∧ BytesAt F w kv l[i].1 ∧ BytesAt F w vv l[i].2
  | _, _, i, hi, .nil => by simp at hi
  | _, _, 0, hi, .cons h1 h2 h3 => ⟨_, _, rfl, rfl, rfl, h1, h2⟩
  | _, _, i + 1, hi, .cons h1 h2 h3 => by
    have := at_ i (by simpa using hi) h3
    rw [show (i + 1) * 3 = i * 3 + 1 + 1 + 1 by omega]
    exact this
end PairCells
def OutAt (pT : Nat) (B : Nat) (c : Nat → Nat) (q : Nat) (w : World) (v : Value) (L : List KV) : Prop :=
  ∃ xs, w.ownsRow 0 pT 3 v L.length xs ∧ PairCells (fun b => c b = 0 ∧ B ≤ b) w xs L ∧ ∀ b, v.ownBlock = some b → c b = q ∧ B ≤ b
theorem OutAt.fr {pT B : Nat} {C : Nat → Prop} {c : Nat → Nat} {q : Nat} {w w' : World} {v : Value} {L : List KV} (h : OutAt pT B c q w v L) (hf : Fr C w w') (h1 : ∀ b, C b → c b ≠ q) (h2 : ∀ b, C b → c b ≠ 0) : OutAt pT B c q w' v L := by
  obtain ⟨xs, a, b, e⟩ := h
  exact ⟨xs, own_kept a hf (fun b hb k => h1 _ k (e b hb).1), b.fr hf (fun b hb k => h2 _ k hb.1), e⟩
theorem OutAt.fr0 {pT B : Nat} {c : Nat → Nat} {q : Nat} {w w' : World} {v : Value} {L : List KV} (h : OutAt pT B c q w v L) (hf : Fr C0 w w') : OutAt pT B c q w' v L := h.fr hf (fun _ k => k.elim) (fun _ k => k.elim)
theorem OutAt.ag {pT B : Nat} {c c' : Nat → Nat} {q : Nat} {w : World} {v : Value} {L : List KV} (h : OutAt pT B c q w v L) (ha : Ag w.heap.size c c') : OutAt pT B c' q w v L := by
  obtain ⟨xs, a, b, e⟩ := h
  exact ⟨xs, a, b.mono fun b hb hl => ⟨(ha b hl).trans hb.1, hb.2⟩, fun b hb => ⟨(ha b (a.lt b hb).2).trans (e b hb).1, (e b hb).2⟩⟩
theorem OutAt.form {pT B : Nat} {c : Nat → Nat} {q : Nat} {w : World} {v : Value} {L : List KV} (h : OutAt pT B c q w v L) : ∃ A cp, v = .slice A L.length cp ∧ (∀ a, A = some a → ∃ g, a = ⟨g, 0, none⟩) := by
  obtain ⟨xs, a, _⟩ := h; exact own_form a
theorem OutAt.frB {pT B : Nat} {C : Nat → Prop} {c : Nat → Nat} {q : Nat} {w w' : World} {v : Value} {L : List KV} (h : OutAt pT B c q w v L) (hf : Fr C w w') (h1 : ∀ b, C b → b < B) : OutAt pT B c q w' v L := by
  obtain ⟨xs, a, b, e⟩ := h
  exact ⟨xs, own_kept a hf (fun b hb k => by have := h1 _ k; have := (e b hb).2; omega), b.fr hf (fun b hb k => by have := h1 _ k; have := hb.2; omega), e⟩
theorem OutAt.lower {pT B B' : Nat} {c : Nat → Nat} {q : Nat} {w : World} {v : Value} {L : List KV} (h : OutAt pT B c q w v L) (hB : B' ≤ B) : OutAt pT B' c q w v L := by
  obtain ⟨xs, a, b, e⟩ := h
  exact ⟨xs, a, b.mono fun b hb _ => ⟨hb.1, by omega⟩, fun b hb => ⟨(e b hb).1, by have := (e b hb).2; omega⟩⟩
theorem OutAt.nil (pT B : Nat) (c : Nat → Nat) (q : Nat) (w : World) : OutAt pT B c q w (.slice none 0 0) [] := ⟨[], World.ownsRow_nil _ _ _ _, .nil, fun b e => by simp [Value.ownBlock] at e⟩
end Go.H
end
