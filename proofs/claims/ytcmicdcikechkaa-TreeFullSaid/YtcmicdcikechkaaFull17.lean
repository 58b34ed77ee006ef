import Derived.Test.YtcmicdcikechkaaFull12
import Derived.Test.YtcmicdcikechkaaFull03
set_option linter.all false
section
namespace Go.H
open Go.RowKit
inductive PairCells (F : Nat → Prop) (w : World) : List Value → List KV → Prop
  | nil : PairCells F w [] []
  | cons {x : KV} {kv vv : Value} {xs : List Value} {l : List KV} : BytesAt F w kv x.1 → BytesAt F w vv x.2 → PairCells F w xs l → PairCells F w (.int .i64 0 :: kv :: vv :: xs) (x :: l)
namespace PairCells
variable {F F' C : Nat → Prop} {w w' : World}
theorem fr (hf : Fr C w w') (hd : ∀ b, F b → ¬ C b) : ∀ {xs : List Value} {l : List KV}, PairCells F w xs l → PairCells F w' xs l
  | _, _, .nil => .nil
  | _, _, .cons h1 h2 h3 => .cons (h1.fr hf hd) (h2.fr hf hd) (fr hf hd h3)
theorem mono (hF : ∀ b, F b → b < w.heap.size → F' b) : ∀ {xs : List Value} {l : List KV}, PairCells F w xs l → PairCells F' w xs l
  | _, _, .nil => .nil
  | _, _, .cons h1 h2 h3 => .cons (h1.mono hF) (h2.mono hF) (mono hF h3)
theorem append {ys : List Value} {m : List KV} (k : PairCells F w ys m) : ∀ {xs : List Value} {l : List KV}, PairCells F w xs l → PairCells F w (xs ++ ys) (l ++ m)
  | _, _, .nil => k
  | _, _, .cons h1 h2 h3 => .cons h1 h2 (append k h3)
theorem length : ∀ {xs : List Value} {l : List KV}, PairCells F w xs l → xs.length = l.length * 3
  | _, _, .nil => rfl
  | _, _, .cons h1 h2 h3 => by have := length h3; simp only [List.length_cons]; omega
theorem at_ : ∀ {xs : List Value} {l : List KV} (i : Nat) (hi : i < l.length), PairCells F w xs l → ∃ kv vv, xs[i * 3]? = some (.int .i64 0) ∧ xs[i * 3 + 1]? = some kv ∧ xs[i * 3 + 2]? = some vv ∧ BytesAt F w kv l[i].1 ∧ BytesAt F w vv l[i].2
  | _, _, i, hi, .nil => by simp at hi
  | _, _, 0, hi, .cons h1 h2 h3 => ⟨_, _, rfl, rfl, rfl, h1, h2⟩
  | _, _, i + 1, hi, .cons h1 h2 h3 => by
    have := at_ i (by simpa using hi) h3
    rw [show (i + 1) * 3 = i * 3 + 1 + 1 + 1 by omega]
    exact this
end PairCells
def OutAt (pT : Nat) (B : Nat) (c : Nat → Nat) (q : Nat) (w : World) (v : Value) (L : List KV) : Prop :=
  ∃ xs, w.ownsRow 0 pT 3 v L.length xs ∧ PairCells (fun b => c b = 0 ∧ B ≤ b) w xs L ∧ ∀ b, v.ownBlock = some b → c b = q ∧ B ≤ b
theorem OutAt.fr {pT B : Nat} {C : Nat → Prop} {c : Nat → Nat} {q : Nat} {w w' : World} {v : Value} {L : List KV} (h : OutAt pT B c q w v L) (hf : Fr C w w') (h1 : ∀ b, C b → c b ≠ q) (h2 : ∀ b, C b → c b ≠ 0) : OutAt pT B c q w' v L := by
  obtain ⟨xs, a, b, e⟩ := h
  exact ⟨xs, own_kept a hf (fun b hb k => h1 _ k (e b hb).1), b.fr hf (fun b hb k => h2 _ k hb.1), e⟩
theorem OutAt.fr0 {pT B : Nat} {c : Nat → Nat} {q : Nat} {w w' : World} {v : Value} {L : List KV} (h : OutAt pT B c q w v L) (hf : Fr C0 w w') : OutAt pT B c q w' v L := h.fr hf (fun _ k => k.elim) (fun _ k => k.elim)
theorem OutAt.ag {pT B : Nat} {c c' : Nat → Nat} {q : Nat} {w : World} {v : Value} {L : List KV} (h : OutAt pT B c q w v L) (ha : Ag w.heap.size c c') : OutAt pT B c' q w v L := by
  obtain ⟨xs, a, b, e⟩ := h
  exact ⟨xs, a, b.mono fun b hb hl => ⟨(ha b hl).trans hb.1, hb.2⟩, fun b hb => ⟨(ha b (a.lt b hb).2).trans (e b hb).1, (e b hb).2⟩⟩
theorem OutAt.form {pT B : Nat} {c : Nat → Nat} {q : Nat} {w : World} {v : Value} {L : List KV} (h : OutAt pT B c q w v L) : ∃ A cp, v = .slice A L.length cp ∧ (∀ a, A = some a → ∃ g, a = ⟨g, 0, none⟩) := by
  obtain ⟨xs, a, _⟩ := h; exact own_form a
theorem OutAt.frB {pT B : Nat} {C : Nat → Prop} {c : Nat → Nat} {q : Nat} {w w' : World} {v : Value} {L : List KV} (h : OutAt pT B c q w v L) (hf : Fr C w w') (h1 : ∀ b, C b → b < B) : OutAt pT B c q w' v L := by
  obtain ⟨xs, a, b, e⟩ := h
  exact ⟨xs, own_kept a hf (fun b hb k => by have := h1 _ k; have := (e b hb).2; omega), b.fr hf (fun b hb k => by have := h1 _ k; have := hb.2; omega), e⟩
theorem OutAt.lower {pT B B' : Nat} {c : Nat → Nat} {q : Nat} {w : World} {v : Value} {L : List KV} (h : OutAt pT B c q w v L) (hB : B' ≤ B) : OutAt pT B' c q w v L := by
  obtain ⟨xs, a, b, e⟩ := h
  exact ⟨xs, a, b.mono fun b hb _ => ⟨hb.1, by omega⟩, fun b hb => ⟨(e b hb).1, by have := (e b hb).2; omega⟩⟩
theorem OutAt.nil (pT B : Nat) (c : Nat → Nat) (q : Nat) (w : World) : OutAt pT B c q w (.slice none 0 0) [] := ⟨[], World.ownsRow_nil _ _ _ _, .nil, fun b e => by simp [Value.ownBlock] at e⟩
end Go.H
end
