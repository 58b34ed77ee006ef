import Derived.Test.YtcmicdcikechkaaFlips36
import Derived.Deep.CutRange
import Derived.Deep.CutBlock
import Derived.Deep.DeepCutAuto
import Derived.Test.YtcmicdcikechkaaFlips33
import Derived.Test.YtcmicdcikechkaaFlips28
import Derived.Test.YtcmicdcikechkaaFlips10
import Derived.Test.YtcmicdcikechkaaFlips15
import Derived.Test.YtcmicdcikechkaaFlips35
set_option linter.all false
section
namespace Go.Proofs.Ytcmicdcikechkaa
open Go.RowKit Go.H
set_option maxHeartbeats 2000000
set_option maxRecDepth 100000
structure MendRes (c : Nat → Nat) (qn rn q : Nat) (w : World) (pg : Nat → Option Bs) (N d n : Nat) (l : List KV) (ks : List T) (wp tp : Nat) (gone : List Nat) (w' : World) : Prop where
  fr : Fr (fun b => c b = q ∨ c b = qn) w w'
  ex : ∃ c' l' ks' gone', Ag w.heap.size c c' ∧ Cl w' c' ∧ WorkAt c' q w' wp tp gone' ∧ InnerOpen c' qn rn w' pg N d n l' ks' ∧ ks'.length = l'.length + 1 ∧ (∀ k ∈ ks', Shape d 2 k) ∧ (∀ y ∈ l', KVok y) ∧ l.length ≤ l'.length + 1 ∧ l'.length ≤ l.length ∧
    inter l' (ks'.map (flat d)) = inter l (ks.map (flat d)) ∧ AccL w.heap.size d 1 ks ks' gone gone' ∧ gone'.length ≤ gone.length + 1
theorem All2.at_ {α β : Type} {R : α → β → Prop} : ∀ {l : List α} {m : List β} (i : Nat) (h1 : i < l.length) (h2 : i < m.length), All2 R l m → R l[i] m[i]
  | _, _, _, h, _, .nil => by simp at h
  | _, _, 0, _, _, .cons a b => a
  | _, _, i + 1, h1, h2, .cons a b => All2.at_ i (by simpa using h1) (by simpa using h2) b
structure MendMid (c c1 : Nat → Nat) (rn q : Nat) (w wx : World) (pg : Nat → Option Bs) (N d : Nat) (t1 t2 : T) (lf rt : Value) (wp tp : Nat) (gone gone1 : List Nat) : Prop where
  fr : Fr (fun b => c b = q) w wx
  ag : Ag w.heap.size c c1
  cl : Cl wx c1
  wk : WorkAt c1 q wx wp tp gone1
  pair : Pair2 c1 rn wx pg N d lf rt t1.l t2.l t1.ks t2.ks
  cnt : ∀ id, gone1.count id = gone.count id + (goneOf t1).count id + (goneOf t2).count id
  len : gone1.length ≤ gone.length + 1
variable {c c1 c5 : Nat → Nat} {rn q qn : Nat} {w w1 w3 w4 w5 w6 w7 w8 : World} {pg : Nat → Option Bs} {N d n a wp tp : Nat} {l : List KV} {ks : List T} {lv kv lf rt : Value} {xs kvs : List Value} {gone gone1 : List Nat}
end Go.Proofs.Ytcmicdcikechkaa
end
section
namespace Go.Proofs.Ytcmicdcikechkaa
open Go.RowKit Go.H
set_option maxHeartbeats 40000000
set_option maxRecDepth 100000
end Go.Proofs.Ytcmicdcikechkaa
end
section
namespace Go.Proofs.Ytcmicdcikechkaa
open Go.RowKit Go.H
set_option maxHeartbeats 2000000
set_option maxRecDepth 100000
end Go.Proofs.Ytcmicdcikechkaa
end
section
namespace Go.Proofs.Ytcmicdcikechkaa
open Go.RowKit Go.H
set_option maxHeartbeats 4000000
set_option maxRecDepth 100000
structure LeafNew (c' : Nat → Nat) (w0 w : World) (n : Nat) (A : Option Addr) (cap : Nat) (l : List KV) (xs : List Value) : Prop where
  blk : w.heap[n]? = some (.cells #[.int .i64 0, .slice A l.length cap] 73 (0, 0))
  row : w.ownsRow 0 62 2 (.slice A l.length cap) l.length xs
  cells : ItemCells (fun b => c' b = 0 ∧ b ≠ n ∧ ¬ (Value.slice A l.length cap).ownBlock = some b) w xs l
  nn : w0.heap.size ≤ n ∧ c' n = 0
  rr : ∀ b, (Value.slice A l.length cap).ownBlock = some b → w0.heap.size ≤ b ∧ c' b = 0 ∧ b ≠ n
structure LastRes (c : Nat → Nat) (rn q : Nat) (w : World) (pg : Nat → Option Bs) (N d m : Nat) (t : T) (L : List KV) (x : KV) (wp tp : Nat) (gone : List Nat) (tx : TypeId) (y kv vv : Value) (w' : World) : Prop where
  fr : Fr (fun b => c b = q) w w'
  ex : ∃ c' gone' ta, Ag w.heap.size c c' ∧ Cl w' c' ∧ WorkAt c' q w' wp tp gone' ∧ gone'.length ≤ gone.length + 2 * d ∧ Rep c' rn w' pg N False d ta (.iface tx y) ∧ T.isMem' ta ∧ Shape d (m - 1) ta ∧ flat d ta = L ∧ BytesAt (Dt c') w' kv x.1 ∧ BytesAt (Dt c') w' vv x.2 ∧ Acc w.heap.size d t [ta] gone gone'
def LastEnd (c : Nat → Nat) (rn q : Nat) (w : World) (pg : Nat → Option Bs) (N d m : Nat) (t : T) (L : List KV) (x : KV) (wp tp : Nat) (gone : List Nat) (e : Ending) (w' : World) : Prop :=
  ∃ tx y kA kn kc vA vn vc, e = .returned (.tuple #[.iface tx y, .agg #[.slice kA kn kc, .slice vA vn vc]]) ∧ LastRes c rn q w pg N d m t L x wp tp gone tx y (.slice kA kn kc) (.slice vA vn vc) w'
end Go.Proofs.Ytcmicdcikechkaa
end
section
namespace Go.Proofs.Ytcmicdcikechkaa
open Go.RowKit Go.H
set_option maxHeartbeats 2000000
set_option maxRecDepth 100000
end Go.Proofs.Ytcmicdcikechkaa
end
section
namespace Go.Proofs.Ytcmicdcikechkaa
open Go.RowKit Go.H
set_option maxHeartbeats 2000000
set_option maxRecDepth 100000
structure InnerAt (c : Nat → Nat) (qn rn : Nat) (w : World) (pg : Nat → Option Bs) (N d n : Nat) (l : List KV) (ks : List T) (L0 lc G kc : Nat) (xs kvs : List Value) : Prop where
  blk : w.heap[n]? = some (.cells #[.int .i64 0, .slice (some ⟨L0, 0, none⟩) l.length lc, .slice (some ⟨G, 0, none⟩) kvs.length kc] 80 (0, 0))
  row : w.ownsRow 0 62 2 (.slice (some ⟨L0, 0, none⟩) l.length lc) l.length xs
  cells : ItemCells (Dt c) w xs l
  krow : w.ownsRow 0 20 1 (.slice (some ⟨G, 0, none⟩) kvs.length kc) kvs.length kvs
  kids : All2 (Rep c rn w pg N False d) ks kvs
  cn : c n = qn
  cl : c L0 = qn ∧ L0 ≠ n
  cg : c G = qn ∧ G ≠ n ∧ G ≠ L0
variable {c c' : Nat → Nat} {qn rn : Nat} {w w' : World} {pg : Nat → Option Bs} {N d n : Nat} {l : List KV} {ks : List T} {L0 lc G kc : Nat} {xs kvs : List Value}
theorem own_some {w : World} {B e size n : Nat} {v : Value} {xs : List Value} (h : w.ownsRow B e size v n xs) (hn : 1 ≤ n) : ∃ g cap, v = .slice (some ⟨g, 0, none⟩) n cap := by
  obtain ⟨A, cap, rfl, hA⟩ := own_form h
  cases A with
  | none =>
    rcases h.2 with ⟨e', h0⟩ | ⟨g, cap, cur, e', _⟩
    · omega
    · cases e'
  | some a => obtain ⟨g, rfl⟩ := hA a rfl; exact ⟨g, cap, rfl⟩
theorem InnerOpen.at (h : InnerOpen c qn rn w pg N d n l ks) (hl : 1 ≤ l.length) (hk : 1 ≤ ks.length) : ∃ L0 lc G kc xs kvs, InnerAt c qn rn w pg N d n l ks L0 lc G kc xs kvs := by
  obtain ⟨lv, kv, xs, kvs, b1, ol, ic, ok, ka, cn, clv, ckv⟩ := h
  have hkl := All2.length ka
  obtain ⟨L0, lc, rfl⟩ := own_some ol hl
  obtain ⟨G, kc, rfl⟩ := own_some ok (by omega)
  exact ⟨L0, lc, G, kc, xs, kvs, b1, ol, ic, ok, ka, cn, clv L0 rfl, (ckv G rfl).1, (ckv G rfl).2.1, fun e => (ckv G rfl).2.2 (by rw [e]; rfl)⟩
theorem InnerAt.open_ (h : InnerAt c qn rn w pg N d n l ks L0 lc G kc xs kvs) : InnerOpen c qn rn w pg N d n l ks :=
  ⟨_, _, xs, kvs, h.blk, h.row, h.cells, h.krow, h.kids, h.cn, fun b e => by simp [Value.ownBlock] at e; subst e; exact h.cl, fun b e => by simp [Value.ownBlock] at e; subst e; exact ⟨h.cg.1, h.cg.2.1, fun e => h.cg.2.2 (by simp [Value.ownBlock] at e; exact e.symm)⟩⟩
theorem InnerAt.lt (h : InnerAt c qn rn w pg N d n l ks L0 lc G kc xs kvs) : n < w.heap.size ∧ L0 < w.heap.size ∧ G < w.heap.size := ⟨(Array.getElem?_eq_some_iff.1 h.blk).1, (h.row.lt L0 rfl).2, (h.krow.lt G rfl).2⟩
theorem InnerAt.fr {C : Nat → Prop} (h : InnerAt c qn rn w pg N d n l ks L0 lc G kc xs kvs) (hf : Fr C w w') (hC : ∀ b, C b → c b ≠ qn ∧ c b ≠ rn ∧ c b ≠ 0) : InnerAt c qn rn w' pg N d n l ks L0 lc G kc xs kvs :=
  ⟨hf.blk h.blk (fun e => (hC _ e).1 h.cn), own_kept h.row hf (fun b e k => by simp [Value.ownBlock] at e; subst e; exact (hC _ k).1 h.cl.1), h.cells.fr hf (fun b e k => (hC _ k).2.2 e), own_kept h.krow hf (fun b e k => by simp [Value.ownBlock] at e; subst e; exact (hC _ k).1 h.cg.1), h.kids.imp fun _ _ h => Rep.fr hf (fun b k => (hC _ k).2.1) (fun b k => (hC _ k).2.2) h, h.cn, h.cl, h.cg⟩
theorem InnerAt.fr0 (h : InnerAt c qn rn w pg N d n l ks L0 lc G kc xs kvs) (hf : Fr C0 w w') : InnerAt c qn rn w' pg N d n l ks L0 lc G kc xs kvs := h.fr hf (fun _ k => k.elim)
theorem InnerAt.ag (h : InnerAt c qn rn w pg N d n l ks L0 lc G kc xs kvs) (ha : Ag w.heap.size c c') : InnerAt c' qn rn w pg N d n l ks L0 lc G kc xs kvs :=
  ⟨h.blk, h.row, h.cells.mono (fun b e k => (ha b k).trans e), h.krow, h.kids.imp fun _ _ h => Rep.ag ha h, (ha _ h.lt.1).trans h.cn, ⟨(ha _ h.lt.2.1).trans h.cl.1, h.cl.2⟩, (ha _ h.lt.2.2).trans h.cg.1, h.cg.2⟩
end Go.Proofs.Ytcmicdcikechkaa
end
section
namespace Go.Proofs.Ytcmicdcikechkaa
open Go.RowKit Go.H
set_option maxHeartbeats 4000000
set_option maxRecDepth 100000
def LastIH (r rn q st tp wp : Nat) (S : SSt) (D : DSt) (d : Nat) : Prop := ∀ {m : Nat} {c : Nat → Nat} {w : World} {t : T} {v : Value} {gone : List Nat} {L : List KV} {x : KV}, Hd c r w tp st S D → Cl w c → WorkAt c q w wp tp gone → Rep c rn w (pgs D) D.blocks False d t v → Shape d m t → 1 ≤ m → flat d t = L ++ [x] → gone.length + 2 * d ≤ 1000000 →
  Calls Try.prog 81 #[.pointer (some ⟨wp, 0, none⟩), v] w (LastEnd c rn q w (pgs D) D.blocks d m t L x wp tp gone)
end Go.Proofs.Ytcmicdcikechkaa
end
section
namespace Go.Proofs.Ytcmicdcikechkaa
open Go.RowKit Go.H
set_option maxHeartbeats 4000000
set_option maxRecDepth 100000
structure TakeRes (c : Nat → Nat) (rn q : Nat) (w : World) (pg : Nat → Option Bs) (N d m : Nat) (t : T) (L : List KV) (wp tp : Nat) (gone : List Nat) (tx : TypeId) (y : Value) (w' : World) : Prop where
  fr : Fr (fun b => c b = q) w w'
  ex : ∃ c' gone' ta, Ag w.heap.size c c' ∧ Cl w' c' ∧ WorkAt c' q w' wp tp gone' ∧ gone'.length ≤ gone.length + 2 * d ∧ Rep c' rn w' pg N False d ta (.iface tx y) ∧ T.isMem' ta ∧ Shape d (m - 1) ta ∧ flat d ta = L ∧ Acc w.heap.size d t [ta] gone gone'
def TakeEnd (c : Nat → Nat) (rn q : Nat) (w : World) (pg : Nat → Option Bs) (N d m : Nat) (t : T) (L : List KV) (wp tp : Nat) (gone : List Nat) (e : Ending) (w' : World) : Prop :=
  ∃ tx y, e = .returned (.iface tx y) ∧ TakeRes c rn q w pg N d m t L wp tp gone tx y w'
end Go.Proofs.Ytcmicdcikechkaa
end
section
namespace Go.Proofs.Ytcmicdcikechkaa
open Go.RowKit Go.H
set_option maxHeartbeats 4000000
set_option maxRecDepth 100000
def TakeIH (r rn q st tp wp : Nat) (S : SSt) (D : DSt) (kv : Value) (key : List UInt8) (d : Nat) : Prop := ∀ {m : Nat} {c : Nat → Nat} {w : World} {t : T} {v : Value} {gone : List Nat}, Hd c r w tp st S D → Cl w c → WorkAt c q w wp tp gone → Rep c rn w (pgs D) D.blocks False d t v → Shape d m t → 1 ≤ m → Sorted (flat d t) → getL key (flat d t) ≠ none → BytesAt (Dt c) w kv key → gone.length + 2 * d ≤ 1000000 →
  Calls Try.prog 51 #[.pointer (some ⟨wp, 0, none⟩), v, kv] w (TakeEnd c rn q w (pgs D) D.blocks d m t (delL key (flat d t)) wp tp gone)
end Go.Proofs.Ytcmicdcikechkaa
end
section
namespace Go.Proofs.Ytcmicdcikechkaa
open Go.RowKit Go.H
set_option maxHeartbeats 2000000
set_option maxRecDepth 100000
structure RAccD (n0 : Nat) (o o' : Root) (gone gone' : List Nat) : Prop where
  pg : ∀ id, rcnt (.pg id) o' + gone'.count id = rcnt (.pg id) o + gone.count id
  cl : ∀ b j, rcnt (.cl b j) o' ≤ if b < n0 then rcnt (.cl b j) o else 1
  dirty : rootDirty o' ≤ rootDirty o + 2 * rootD o
def TDelRes (c : Nat → Nat) (r rn : Nat) (w : World) (tp st lm km : Nat) (S : SSt) (D : DSt) (o : Root) (lr ov : Value) (ls ld : Int) (gone : List Nat) (L : List KV) (i : Int) (w' : World) : Prop :=
  ∃ o' gone', rootL o' = L ∧ RootSh o' ∧ RAccD w.heap.size o o' gone gone' ∧
    ((i = 21 ∧ S.pages - S.state.length < rootDirty o' ∧ Fr C0 w w') ∨
     (i = 0 ∧ rootDirty o' ≤ S.pages - S.state.length ∧ Fr (fun b => c b = r) w w' ∧ ∃ gv' rv' c', Ag w.heap.size c c' ∧ Cl w' c' ∧ Hd c' r w' tp st S D ∧
       w'.heap[tp]? = some (.cells (TreeCells st rv' ((rootL o').length : Int) (rootD o' : Int) lr ls ld lm gv' ov km) 69 (0, 0)) ∧ w'.ownsRow 0 3 1 gv' gone'.length (gone'.map natV) ∧ (∀ b, gv'.ownBlock = some b → c' b = r) ∧ RootAt c' rn w' (pgs D) D.blocks False o' rv'))
end Go.Proofs.Ytcmicdcikechkaa
end
section
namespace Go.Proofs.Ytcmicdcikechkaa
open Go.RowKit Go.H
set_option maxHeartbeats 4000000
set_option maxRecDepth 100000
end Go.Proofs.Ytcmicdcikechkaa
end
section
namespace Go.Proofs.Ytcmicdcikechkaa
open Go.RowKit Go.H
set_option maxHeartbeats 2000000
set_option maxRecDepth 100000
end Go.Proofs.Ytcmicdcikechkaa
end
section
namespace Go.H
def atN (k : List UInt8) : List KV → Nat
  | [] => 0
  | y :: l => if bcmp y.1 k < 0 then atN k l + 1 else 0
def atB (k : List UInt8) : List KV → Bool
  | [] => false
  | y :: l => if bcmp y.1 k < 0 then atB k l else decide (y.1 = k)
theorem atN_le (k : List UInt8) : ∀ l : List KV, atN k l ≤ l.length
  | [] => Nat.le_refl _
  | y :: l => by
    have := atN_le k l
    simp only [atN, List.length_cons]
    split <;> omega
theorem atB_lt (k : List UInt8) : ∀ l : List KV, atB k l = true → atN k l < l.length
  | [], h => by simp [atB] at h
  | y :: l, h => by
    simp only [atN, atB, List.length_cons] at h ⊢
    split at h
    · rename_i e
      rw [if_pos e]
      have := atB_lt k l h
      omega
    · rename_i e
      rw [if_neg e]
      omega
theorem putL_at (x : KV) : ∀ l : List KV, putL x l = l.take (atN x.1 l) ++ x :: l.drop (atN x.1 l + (atB x.1 l).toNat)
  | [] => rfl
  | y :: l => by
    have hs := bcmp_swap x.1 y.1
    simp only [putL, atN, atB]
    by_cases h : bcmp y.1 x.1 < 0
    · have h1 : ¬ bcmp x.1 y.1 < 0 := by omega
      have h2 : ¬ bcmp x.1 y.1 = 0 := by omega
      rw [if_neg h1, if_neg h2, if_pos h, if_pos h, putL_at x l]
      have e : ∀ n m : Nat, n + 1 + m = (n + m) + 1 := fun n m => by omega
      rw [e, List.take_succ_cons, List.drop_succ_cons]
      rfl
    · rw [if_neg h, if_neg h]
      by_cases h2 : bcmp x.1 y.1 = 0
      · have e := bcmp_zero h2
        have e1 : decide (y.1 = x.1) = true := decide_eq_true e.symm
        rw [if_neg (by omega), if_pos h2, e1]
        simp
      · have h3 : bcmp x.1 y.1 < 0 := by omega
        have e1 : decide (y.1 = x.1) = false := decide_eq_false fun e => by rw [e, bcmp_self] at h2; exact h2 rfl
        rw [if_pos h3, e1]
        simp
theorem atN_step {k : List UInt8} {l : List KV} {i : Nat} (hi : i < l.length) (h : atN k l = i + atN k (l.drop i)) (hl : bcmp l[i].1 k < 0) : atN k l = (i + 1) + atN k (l.drop (i + 1)) := by
  rw [h, List.drop_eq_getElem_cons hi]
  simp only [atN, if_pos hl]
  omega
theorem atB_step {k : List UInt8} {l : List KV} {i : Nat} (hi : i < l.length) (h : atB k l = atB k (l.drop i)) (hl : bcmp l[i].1 k < 0) : atB k l = atB k (l.drop (i + 1)) := by
  rw [h, List.drop_eq_getElem_cons hi]
  simp only [atB, if_pos hl]
theorem at_here {k : List UInt8} {l : List KV} {i : Nat} (hi : i < l.length) (h : atN k l = i + atN k (l.drop i)) (h2 : atB k l = atB k (l.drop i)) (hl : ¬ bcmp l[i].1 k < 0) : atN k l = i ∧ atB k l = decide (l[i].1 = k) := by
  rw [h, h2, List.drop_eq_getElem_cons hi]
  simp only [atN, atB, if_neg hl]
  exact ⟨rfl, trivial⟩
theorem at_end {k : List UInt8} {l : List KV} (h : atN k l = l.length + atN k (l.drop l.length)) (h2 : atB k l = atB k (l.drop l.length)) : atN k l = l.length ∧ atB k l = false := by
  rw [h, h2, List.drop_length]
  exact ⟨rfl, rfl⟩
theorem bytesLess_bcmp : ∀ a b : List UInt8, Op.bytesLess a b = decide (bcmp a b < 0)
  | _, [] => by
    rename_i a
    cases a <;> simp [Op.bytesLess, bcmp]
  | [], _ :: _ => by simp [Op.bytesLess, bcmp]
  | a :: az, b :: bs => by
    simp only [Op.bytesLess, bcmp, bytesLess_bcmp az bs]
    by_cases h : a < b
    · simp [h]
    · by_cases h2 : b < a
      · have : (a == b) = false := by
          apply beq_false_of_ne
          rintro rfl
          exact h h2
        simp [h, h2, this]
      · have : a = b := UInt8.le_antisymm (UInt8.not_lt.1 h2) (UInt8.not_lt.1 h)
        subst this
        simp [h]
end Go.H
end
section
namespace Go.Proofs.Ytcmicdcikechkaa
open Go.RowKit Go.H
set_option maxHeartbeats 2000000
set_option maxRecDepth 100000
theorem str3 {F G : Nat → Prop} {w : World} {u v : Value} {a b : List UInt8} (ha : BytesAt F w u a) (hb : BytesAt G w v b) : ∃ x y : ByteArray, Hid (∀ w_, Fr C0 w w_ → (convert 23 9 u).run Try.prog w_ = .ok (.string x) w_) ∧ Hid (∀ w_, Fr C0 w w_ → (convert 23 9 v).run Try.prog w_ = .ok (.string y) w_) ∧ Hid ((x.toList == y.toList) = decide (a = b)) ∧ Hid (Op.bytesLess x.toList y.toList = decide (bcmp a b < 0)) :=
  ⟨_, _, Lib.hid fun w_ hf => bytes_str (ha.fr0 hf), Lib.hid fun w_ hf => bytes_str (hb.fr0 hf), Lib.hid (by rw [ByteArray.toList_eq, ByteArray.toList_eq]; simp [beq_dec]), Lib.hid (by rw [ByteArray.toList_eq, ByteArray.toList_eq, ← bytesLess_bcmp])⟩
theorem lat_calls {F G : Nat → Prop} {w : World} {u v : Value} {l : List KV} {key : List UInt8} (hl : PairsAt F w u l) (hk : BytesAt G w v key) :
    Calls Try.prog 36 #[u, v] w fun e w' => e = .returned (.tuple #[.int .i64 (atN key l : Int), .bool (atB key l)]) ∧ Fr C0 w w' := by
  have HA := Lib.hid hl
  have HB := Lib.hid hk
  obtain ⟨A, ca, rfl, ha1, ha2⟩ := hl.form
  obtain ⟨B, cb, rfl, -⟩ := hk.form
  clear hl hk
  unfold maxLen at ha2
  go_enter Try.func36, Try.ntmps36
  go_wp2
  go_loopw [6] (fun i wr => ∃ k : Nat, k ≤ l.length ∧ i = .int .i64 (k : Int) ∧ Fr C0 w wr ∧ Hid (atN key l = k + atN key (l.drop k) ∧ atB key l = atB key (l.drop k))) (fun i _ => l.length - (intOf i).toNat)
  case atStart => exact ⟨0, Nat.zero_le _, rfl, Fr.refl _ _, Lib.hid ⟨by simp, by simp⟩⟩
  case round =>
    obtain ⟨k, hk, rfl, hf, HI⟩ := hrel
    have HF := Lib.hid hf
    clear hf
    by_cases hlt : k < l.length
    · obtain ⟨ga, oa, kva, vva, rfl, a0, a1, a2, a3, a4⟩ := (HA.out.fr0 HF.out).at_ k hlt
      obtain ⟨x1, y1, sa3, sb3, E1, E2⟩ := str3 a3 (HB.out.fr0 HF.out)
      obtain ⟨_, _, rfl, -⟩ := a3.form
      clear a3 a4
      by_cases hb : bcmp l[k].1 key < 0
      · have e2 := E2.out; rw [decide_eq_true hb] at e2
        have HBL := Lib.hid hb
        clear hb
        go_wp2_with fail
        refine wp_region_L (Fr C0 wr) [] (by kernel_rfl) ?_
        have hSw0 : (Fr C0 wr) _ := (Fr.refl C0 wr).drew
        refine tk 0 hSw0 ?_
        refine tk 1 hSw0 ?_
        refine tk 2 hSw0 ?_
        refine tk 3 hSw0 ?_
        refine tk 4 hSw0 ?_ (hy := by intro w_ hS_; have c0 := hS_.cell0 a0; have c1 := hS_.cell0 a1; have c2 := hS_.cell0 a2; first | (go_simp; done) | (go_simp; with_reducible rfl))
        refine tk 5 hSw0 ?_ (hy := by intro w_ hS_; have k3 := sa3.out _ hS_; have l3 := sb3.out _ hS_; first | (go_simp; done) | (go_simp; with_reducible rfl))
        refine tk 6 hSw0 ?_
        refine tk 7 hSw0 ?_ (hy := by intro w_ hS_; have k3 := sa3.out _ hS_; have l3 := sb3.out _ hS_; first | (go_simp; done) | (go_simp; with_reducible rfl))
        refine tk 8 hSw0 ?_
        refine wpAnyL_done (by kernel_rfl) ?_ _
        go_wp2
        go_roundw
        case rel => exact ⟨k + 1, by omega, by go_num, HF.out.drew, Lib.hid ⟨atN_step hlt HI.out.1 HBL.out, atB_step hlt HI.out.2 HBL.out⟩⟩
        case measure => simp [intOf]; omega
      · have e2 := E2.out; rw [decide_eq_false hb] at e2
        have HBL := Lib.hid (at_here hlt HI.out.1 HI.out.2 hb)
        clear hb
        go_wp2_with fail
        refine wp_region_L (Fr C0 wr) [] (by kernel_rfl) ?_
        have hSw0 : (Fr C0 wr) _ := (Fr.refl C0 wr).drew
        refine tk 0 hSw0 ?_
        refine tk 1 hSw0 ?_
        refine tk 2 hSw0 ?_
        refine tk 3 hSw0 ?_
        refine tk 4 hSw0 ?_ (hy := by intro w_ hS_; have c0 := hS_.cell0 a0; have c1 := hS_.cell0 a1; have c2 := hS_.cell0 a2; first | (go_simp; done) | (go_simp; with_reducible rfl))
        refine tk 5 hSw0 ?_ (hy := by intro w_ hS_; have k3 := sa3.out _ hS_; have l3 := sb3.out _ hS_; first | (go_simp; done) | (go_simp; with_reducible rfl))
        refine tk 6 hSw0 ?_
        refine tk 7 hSw0 ?_ (hy := by intro w_ hS_; have k3 := sa3.out _ hS_; have l3 := sb3.out _ hS_; first | (go_simp; done) | (go_simp; with_reducible rfl))
        refine tk 8 hSw0 ?_
        refine wpAnyL_done (by kernel_rfl) ?_ _
        go_wp2_with fail
        refine wp_region_L (Fr C0 wr) [] (by kernel_rfl) ?_
        have hSw0 : (Fr C0 wr) _ := (Fr.refl C0 wr).drew.drew
        refine tk 0 hSw0 ?_
        refine tk 1 hSw0 ?_
        refine tk 2 hSw0 ?_
        refine tk 3 hSw0 ?_
        refine tk 4 hSw0 ?_
        refine tk 5 hSw0 ?_ (hy := by intro w_ hS_; have c0 := hS_.cell0 a0; have c1 := hS_.cell0 a1; have c2 := hS_.cell0 a2; first | (go_simp; done) | (go_simp; with_reducible rfl))
        refine tk 6 hSw0 ?_ (hy := by intro w_ hS_; have k3 := sa3.out _ hS_; have l3 := sb3.out _ hS_; first | (go_simp; done) | (go_simp; with_reducible rfl))
        refine tk 7 hSw0 ?_
        refine tk 8 hSw0 ?_ (hy := by intro w_ hS_; have k3 := sa3.out _ hS_; have l3 := sb3.out _ hS_; first | (go_simp; done) | (go_simp; with_reducible rfl))
        refine tk 9 hSw0 ?_
        refine tk 10 hSw0 ?_
        refine tk 11 hSw0 ?_
        refine wpAnyL_done (by kernel_rfl) ?_ _
        go_wp2
        go_ret2
        refine ⟨?_, HF.out.drew.drew⟩
        rw [HBL.out.1, HBL.out.2, E1.out]
        rfl
    · obtain rfl : k = l.length := by omega
      have HE := Lib.hid (at_end HI.out.1 HI.out.2)
      go_wp2
      go_ret2
      refine ⟨?_, HF.out⟩
      rw [HE.out.1, HE.out.2]
      rfl
theorem PairCells.take_ {F : Nat → Prop} {w : World} : ∀ {xs : List Value} {l : List KV} (n : Nat), PairCells F w xs l → PairCells F w (xs.take (n * 3)) (l.take n)
  | _, _, n, .nil => by simp; exact .nil
  | _, _, 0, .cons h1 h2 h3 => by simp; exact .nil
  | _, _, n + 1, .cons h1 h2 h3 => by
    rw [show (n + 1) * 3 = n * 3 + 1 + 1 + 1 by omega]
    simp only [List.take_succ_cons]
    exact .cons h1 h2 (take_ n h3)
theorem PairCells.drop_ {F : Nat → Prop} {w : World} : ∀ {xs : List Value} {l : List KV} (n : Nat), PairCells F w xs l → PairCells F w (xs.drop (n * 3)) (l.drop n)
  | _, _, n, .nil => by simp; exact .nil
  | _, _, 0, .cons h1 h2 h3 => by simp; exact .cons h1 h2 h3
  | _, _, n + 1, .cons h1 h2 h3 => by
    rw [show (n + 1) * 3 = n * 3 + 1 + 1 + 1 by omega]
    simp only [List.drop_succ_cons]
    exact drop_ n h3
theorem lput_join {F : Nat → Prop} {w w2 w4 w5 w6 : World} {v2 v3 v4 v5 v6 : Value} {xs : List Value} {l : List KV} {x : KV} {N m i : Nat} (hc : PairCells F w xs l) (h2 : w.heap.size ≤ w2.heap.size) (f4 : Fr C0 w w4)
    (b3 : BytesAt (fun b => w2.heap.size ≤ b ∧ b < w4.heap.size) w4 v3 x.1) (b4 : BytesAt (fun b => w2.heap.size ≤ b ∧ b < w4.heap.size) w4 v4 x.2) (hv2 : ∀ b, v2.ownBlock = some b → w.heap.size ≤ b ∧ b < w2.heap.size)
    (f5 : Fr (fun b => v2.ownBlock = some b) w4 w5) (k5 : ∀ b, v5.ownBlock = some b → v2.ownBlock = some b ∨ w4.heap.size < b) (f6 : Fr (fun b => v5.ownBlock = some b) w5 w6) (o6 : w6.ownsRow w.heap.size 36 3 v6 m (xs.take (N * 3) ++ [.int .i64 0, v3, v4] ++ xs.drop (i * 3)))
    (hm : m = (putL x l).length) (hp : putL x l = l.take N ++ x :: l.drop i) : Fr C0 w w6 ∧ PairsAt (fun b => F b ∨ w.heap.size ≤ b) w6 v6 (putL x l) := by
  have s5 := f5.size
  have s4 := f4.size
  have k6 : ∀ b, v5.ownBlock = some b → w.heap.size ≤ b ∧ (b < w2.heap.size ∨ w4.heap.size < b) := fun b e => by
    rcases k5 b e with e | e
    · exact ⟨(hv2 b e).1, .inl (hv2 b e).2⟩
    · exact ⟨by omega, .inr e⟩
  have F6 : Fr C0 w w6 := (f4.trans f5 (fun b hb e => by have := (hv2 b e).1; omega)).trans f6 (fun b hb e => by have := (k6 b e).1; omega)
  refine ⟨F6, xs.take (N * 3) ++ [.int .i64 0, v3, v4] ++ xs.drop (i * 3), by rw [← hm]; exact Row.ofOwn o6 (fun b e => .inr (o6.lt b e).1), ?_⟩
  rw [hp, List.append_assoc]
  have old : PairCells (fun b => F b ∨ w.heap.size ≤ b) w6 xs l := (hc.fr F6 (fun _ _ k => k)).mono (fun b h _ => .inl h)
  have nw : ∀ {v : Value} {y : Bs}, BytesAt (fun b => w2.heap.size ≤ b ∧ b < w4.heap.size) w4 v y → BytesAt (fun b => F b ∨ w.heap.size ≤ b) w6 v y := fun h =>
    ((h.fr f5 (fun b hb e => by have := (hv2 b e).2; omega)).fr f6 (fun b hb e => by have := (k6 b e).2; omega)).mono (fun b hb _ => .inr (by omega))
  exact (PairCells.append (.cons (nw b3) (nw b4) (PairCells.drop_ i old))) (PairCells.take_ N old)
theorem lput_calls {F : Nat → Prop} {w : World} {lv kv vv : Value} {l : List KV} {x : KV} (hl : PairsAt F w lv l) (hk : BytesAt F w kv x.1) (hv : BytesAt F w vv x.2) (h1 : x.1.length ≤ 100000) (h2 : x.2.length ≤ 100000) (hb : l.length ≤ 100000) :
    Calls Try.prog 15 #[lv, kv, vv] w fun e w' => ∃ A c, e = .returned (.slice A (putL x l).length c) ∧ Hid (Fr C0 w w' ∧ PairsAt (fun b => F b ∨ w.heap.size ≤ b) w' (.slice A (putL x l).length c) (putL x l)) := by
  have HP := Lib.hid (putL_at x l)
  have HL := Lib.hid hl
  have HK := Lib.hid hk
  have HV := Lib.hid hv
  have HAT := Lib.hid (lat_calls hl hk)
  obtain ⟨A, ca, rfl, ha1, ha2⟩ := hl.form
  obtain ⟨B, cb, rfl, -⟩ := hk.form
  obtain ⟨D, cd, rfl, -⟩ := hv.form
  obtain ⟨xs, hr, hc⟩ := hl
  have HR := Lib.hid (hr.mono (F' := fun b => b < w.heap.size) (fun _ _ h => h))
  have HC := Lib.hid hc
  have H1 := Lib.hid (pair_one hc)
  have hN := atN_le x.1 l
  have HLT := Lib.hid (atB_lt x.1 l)
  unfold maxLen at ha2
  have HA2 := Lib.hid ha1
  clear hk hv hr hc
  generalize hn : atN x.1 l = N at *
  clear hn
  cases hbb : atB x.1 l
  · skip
    have hi : N ≤ l.length := by first | exact hN | exact HLT.out hbb
    rw [hbb] at HP HAT
    have HPE : Hid (putL x l = l.take N ++ x :: l.drop N) := Lib.hid HP.out
    have HPL : Hid ((putL x l).length = N + 1 + (l.length - N)) := Lib.hid (by rw [HPE.out]; simp; omega)
    clear hbb HP HLT
    go_enter Try.func15, Try.ntmps15
    go_wp2_with fail
    refine HAT.out.mono ?_
    rintro e w1 ⟨rfl, f1⟩
    have F1 := Lib.hid f1
    have hs1 := f1.size
    clear f1
    go_wp2_with (at_builtin; go_must (refine wpl_app sl_pair rfl _ _ rfl (v := .slice none 0 0) (xv := .slice A N ca) rfl rfl (B := w.heap.size) (World.ownsRow_nil _ _ _ _) ((HR.out.take hN).fr0 F1.out) (oneCell_take H1.out) (by unfold maxLen; omega) (by omega) (by omega) ?_); intro v2 w2 o2 f2 k2 nil2; rw [Nat.zero_add] at o2; obtain ⟨A2, c2, rfl, -⟩ := own_form o2)
    have F2 : Hid (Fr C0 w w2) := Lib.hid (F1.out.trans f2 (fun b _ h => by simp [Value.ownBlock] at h))
    have O2 := Lib.hid o2
    have hs2 := F2.out.size
    clear o2 f2 k2 nil2
    refine (copied2_calls (HK.out.fr0 F2.out) h1).mono ?_
    rintro e w3 ⟨v3, rfl, f3, o3⟩
    have F3 := Lib.hid (F2.out.trans0 f3)
    have O3 := Lib.hid o3
    have O23 := Lib.hid (own_kept O2.out f3 (fun _ _ h => h))
    obtain ⟨A3, c3, rfl, -⟩ := own_form o3
    have hs3 := f3.size
    clear o3 f3
    go_wp2_with fail
    refine (copied2_calls (HV.out.fr0 F3.out) h2).mono ?_
    rintro e w4 ⟨v4, rfl, f4, o4⟩
    have F4 := Lib.hid (F3.out.trans0 f4)
    have hs4 := f4.size
    have O24 := Lib.hid (own_kept O23.out f4 (fun _ _ h => h))
    have B3 := Lib.hid ((BytesAt.ofOwn O3.out (F := fun b => w2.heap.size ≤ b) (fun b e => (O3.out.lt b e).1)).fr0 f4)
    have B4 := Lib.hid (BytesAt.ofOwn o4 (F := fun b => w2.heap.size ≤ b) (fun b e => by have := (o4.lt b e).1; omega))
    obtain ⟨A4, c4, rfl, -⟩ := own_form o4
    clear o4 f4
    go_wp2_with (at_builtin; first
      | (refine wpl_app sl_pair rfl _ _ rfl (v := .slice A2 N c2) (xv := .slice (some ⟨w4.heap.size, 0, none⟩) 1 1) rfl rfl (B := w.heap.size) (own_kept O24.out ((Fr.refl C0 w4).alloc _) (fun _ _ h => h)) (Row.ofBlock (F := fun _ => True) (heap_alloc_new _ _) trivial (by unfold maxLen; omega) rfl) (by simp [Value.oneCell']) (by unfold maxLen; omega) (by omega) (Nat.le_trans (show w.heap.size ≤ w4.heap.size by omega) ((Fr.refl C0 w4).alloc _).size) ?_
         intro v5 w5 o5 f5 k5 nil5
         obtain ⟨A5, c5, rfl, -⟩ := own_form o5
         have O5 := Lib.hid o5
         have K5 := Lib.hid k5
         have F5 := Lib.hid (((Fr.refl (fun b => (Value.slice A2 N c2).ownBlock = some b) w4).alloc (.cells #[.int .i64 0, .slice A3 x.1.length c3, .slice A4 x.2.length c4] 36)).trans f5 (fun b _ h => h))
         have F05 := Lib.hid (F4.out.transO F5.out (fun b e => (O24.out.lt b e).1))
         have hs5 := F05.out.size
         clear o5 f5 k5 nil5)
      | (refine wpl_app sl_pair rfl _ _ rfl (v := .slice A5 (N + 1) c5) (xv := .slice (if ca = N then A else A.map (·.add (N * 3))) (l.length - N) (ca - N)) rfl rfl (B := w.heap.size) O5.out ((HR.out.drop hi).fr0 F05.out) (oneCell_drop H1.out) (by unfold maxLen; omega) (by omega) hs5 ?_
         intro v6 w6 o6 f6 k6 nil6
         obtain ⟨A6, c6, rfl, -⟩ := own_form o6))
    all_goals
      have J := lput_join HC.out hs2 F4.out (B3.out.mono (fun b h hl => ⟨h, hl⟩)) (B4.out.mono (fun b h hl => ⟨h, hl⟩)) (fun b e => O2.out.lt b e) F5.out (fun b e => (K5.out b e).imp id (fun h => by simp at h; omega)) f6 o6 HPL.out.symm HPE.out
      rw [HPL.out]
      go_ret
      refine ⟨A6, c6, ?_, Lib.hid J⟩
      first
        | rfl
        | (rw [show N + 1 + (l.length - (N + 1)) = l.length by omega]; rfl)
  · skip
    have hi : (N + 1) ≤ l.length := by first | exact hN | exact HLT.out hbb
    rw [hbb] at HP HAT
    have HPE : Hid (putL x l = l.take N ++ x :: l.drop (N + 1)) := Lib.hid HP.out
    have HPL : Hid ((putL x l).length = N + 1 + (l.length - (N + 1))) := Lib.hid (by rw [HPE.out]; simp; omega)
    clear hbb HP HLT
    go_enter Try.func15, Try.ntmps15
    go_wp2_with fail
    refine HAT.out.mono ?_
    rintro e w1 ⟨rfl, f1⟩
    have F1 := Lib.hid f1
    have hs1 := f1.size
    clear f1
    go_wp2_with (at_builtin; go_must (refine wpl_app sl_pair rfl _ _ rfl (v := .slice none 0 0) (xv := .slice A N ca) rfl rfl (B := w.heap.size) (World.ownsRow_nil _ _ _ _) ((HR.out.take hN).fr0 F1.out) (oneCell_take H1.out) (by unfold maxLen; omega) (by omega) (by omega) ?_); intro v2 w2 o2 f2 k2 nil2; rw [Nat.zero_add] at o2; obtain ⟨A2, c2, rfl, -⟩ := own_form o2)
    have F2 : Hid (Fr C0 w w2) := Lib.hid (F1.out.trans f2 (fun b _ h => by simp [Value.ownBlock] at h))
    have O2 := Lib.hid o2
    have hs2 := F2.out.size
    clear o2 f2 k2 nil2
    refine (copied2_calls (HK.out.fr0 F2.out) h1).mono ?_
    rintro e w3 ⟨v3, rfl, f3, o3⟩
    have F3 := Lib.hid (F2.out.trans0 f3)
    have O3 := Lib.hid o3
    have O23 := Lib.hid (own_kept O2.out f3 (fun _ _ h => h))
    obtain ⟨A3, c3, rfl, -⟩ := own_form o3
    have hs3 := f3.size
    clear o3 f3
    go_wp2_with fail
    refine (copied2_calls (HV.out.fr0 F3.out) h2).mono ?_
    rintro e w4 ⟨v4, rfl, f4, o4⟩
    have F4 := Lib.hid (F3.out.trans0 f4)
    have hs4 := f4.size
    have O24 := Lib.hid (own_kept O23.out f4 (fun _ _ h => h))
    have B3 := Lib.hid ((BytesAt.ofOwn O3.out (F := fun b => w2.heap.size ≤ b) (fun b e => (O3.out.lt b e).1)).fr0 f4)
    have B4 := Lib.hid (BytesAt.ofOwn o4 (F := fun b => w2.heap.size ≤ b) (fun b e => by have := (o4.lt b e).1; omega))
    obtain ⟨A4, c4, rfl, -⟩ := own_form o4
    clear o4 f4
    go_wp2_with (at_builtin; first
      | (refine wpl_app sl_pair rfl _ _ rfl (v := .slice A2 N c2) (xv := .slice (some ⟨w4.heap.size, 0, none⟩) 1 1) rfl rfl (B := w.heap.size) (own_kept O24.out ((Fr.refl C0 w4).alloc _) (fun _ _ h => h)) (Row.ofBlock (F := fun _ => True) (heap_alloc_new _ _) trivial (by unfold maxLen; omega) rfl) (by simp [Value.oneCell']) (by unfold maxLen; omega) (by omega) (Nat.le_trans (show w.heap.size ≤ w4.heap.size by omega) ((Fr.refl C0 w4).alloc _).size) ?_
         intro v5 w5 o5 f5 k5 nil5
         obtain ⟨A5, c5, rfl, -⟩ := own_form o5
         have O5 := Lib.hid o5
         have K5 := Lib.hid k5
         have F5 := Lib.hid (((Fr.refl (fun b => (Value.slice A2 N c2).ownBlock = some b) w4).alloc (.cells #[.int .i64 0, .slice A3 x.1.length c3, .slice A4 x.2.length c4] 36)).trans f5 (fun b _ h => h))
         have F05 := Lib.hid (F4.out.transO F5.out (fun b e => (O24.out.lt b e).1))
         have hs5 := F05.out.size
         clear o5 f5 k5 nil5)
      | (refine wpl_app sl_pair rfl _ _ rfl (v := .slice A5 (N + 1) c5) (xv := .slice (if ca = (N + 1) then A else A.map (·.add ((N + 1) * 3))) (l.length - (N + 1)) (ca - (N + 1))) rfl rfl (B := w.heap.size) O5.out ((HR.out.drop hi).fr0 F05.out) (oneCell_drop H1.out) (by unfold maxLen; omega) (by omega) hs5 ?_
         intro v6 w6 o6 f6 k6 nil6
         obtain ⟨A6, c6, rfl, -⟩ := own_form o6))
    all_goals
      have J := lput_join HC.out hs2 F4.out (B3.out.mono (fun b h hl => ⟨h, hl⟩)) (B4.out.mono (fun b h hl => ⟨h, hl⟩)) (fun b e => O2.out.lt b e) F5.out (fun b e => (K5.out b e).imp id (fun h => by simp at h; omega)) f6 o6 HPL.out.symm HPE.out
      rw [HPL.out]
      go_ret
      refine ⟨A6, c6, ?_, Lib.hid J⟩
      first
        | rfl
        | (rw [show N + 1 + (l.length - (N + 1)) = l.length by omega]; rfl)
end Go.Proofs.Ytcmicdcikechkaa
end
section
namespace Go.Proofs.Ytcmicdcikechkaa
open Go.RowKit Go.H
set_option maxHeartbeats 2000000
set_option maxRecDepth 100000
theorem TreeAt.shape {c : Nat → Nat} {r rn rm : Nat} {w : World} {tp : Nat} {Z : TSt} {k : Nat} (h : TreeAt c r rn rm w tp Z k) : RootSh Z.now := by
  obtain ⟨st, lm, km, nr, lr, gv, ov, sn, h⟩ := h
  have := h.now.sh
  cases hz : Z.now with
  | none => trivial
  | some p => rw [hz] at this; exact this
end Go.Proofs.Ytcmicdcikechkaa
end
section
namespace Go.H
theorem rangeL_all (l : List KV) : rangeL [] [] l = l := List.filter_eq_self.2 fun x _ => by simp [inR]
end Go.H
end
section
namespace Go.H
def ordL (x : List UInt8) (l : List KV) : List KV := if x = [] then l else putL (x, x) l
def foldO (ks : List (List UInt8)) : List KV := ks.foldl (fun l x => ordL x l) []
end Go.H
end
section
namespace Go.Proofs.Ytcmicdcikechkaa
open Go.RowKit Go.H
set_option maxHeartbeats 2000000
set_option maxRecDepth 100000
structure FitsP (w0 : World) (pn k : Nat) (Z : TSt) : Prop where
  num : Z.S.num ≤ k
  now : (rootL Z.now).length ≤ k
  last : (rootL Z.last).length ≤ k
  pages : Z.S.pages = pn
  dk : Z.S.dk = w0.heap.size + 1
theorem FitsP.le {w0 : World} {pn k k' : Nat} {Z : TSt} (h : FitsP w0 pn k Z) (hk : k ≤ k') : FitsP w0 pn k' Z := ⟨Nat.le_trans h.num hk, Nat.le_trans h.now hk, Nat.le_trans h.last hk, h.pages, h.dk⟩
structure One (w0 : World) (pn tp : Nat) (La Ll : List KV) (k : Nat) (w : World) : Prop where
  ex : ∃ c Z, Stg (fun _ => 0) w0 1 2 3 c w tp Z 0 ∧ rootL Z.now = La ∧ rootL Z.last = Ll ∧ FitsP w0 pn k Z
variable {w0 w : World} {pn tp k : Nat} {La Ll : List KV}
theorem own123 : Owners 1 2 3 := ⟨by omega, by omega, by omega, by omega, by omega, by omega⟩
theorem One.le {k' : Nat} (h : One w0 pn tp La Ll k w) (hk : k ≤ k') : One w0 pn tp La Ll k' w := by
  obtain ⟨c, Z, a, b, d, e⟩ := h
  exact ⟨c, Z, a, b, d, e.le hk⟩
theorem One.fr0 {w' : World} (h : One w0 pn tp La Ll k w) (hf : Fr C0 w w') : One w0 pn tp La Ll k w' := by
  obtain ⟨c, Z, a, b, d, e⟩ := h
  exact ⟨c, Z, a.fr0 hf, b, d, e⟩
theorem One.fr (h : One w0 pn tp La Ll k w) : Fr C0 w0 w := by
  obtain ⟨c, Z, a, _⟩ := h
  exact a.fr
theorem One.cl (h : One w0 pn tp La Ll k w) : ∃ c, Cl w c := by
  obtain ⟨c, Z, a, _⟩ := h
  exact ⟨c, a.tr.cl⟩
theorem One.sorted (h : One w0 pn tp La Ll k w) : Sorted La := by
  obtain ⟨c, Z, a, b, _⟩ := h
  rw [← b]; exact a.tr.bk.sn
theorem One.ok (h : One w0 pn tp La Ll k w) : ∀ x ∈ La, KVok x := by
  obtain ⟨c, Z, a, b, _⟩ := h
  rw [← b]; exact a.tr.ok
end Go.Proofs.Ytcmicdcikechkaa
end
section
namespace Go.Proofs.Ytcmicdcikechkaa
open Go.RowKit Go.H
set_option maxHeartbeats 1000000
set_option maxRecDepth 100000
theorem Rep.spoil {c : Nat → Nat} {rn : Nat} {w : World} {pg pg' : Nat → Option Bs} {N : Nat} (hp : ∀ id, pg id ≠ none → pg' id = pg id ∨ pg' id = none) : ∀ {d : Nat} {t : T} {v : Value}, t.isPage → Rep c rn w pg N False d t v → Rep c rn w pg' N True d t v
  | 0, _, _, _, h => h.elim
  | d + 1, .node (.page i) l ks, v, _, h => by
    obtain ⟨a, b, e, f, k⟩ := h
    have f := f.resolve_right (fun h => h.1)
    refine ⟨a, b, e, ?_, fun x hx => ⟨(k x hx).1, Rep.spoil hp (k x hx).1 (k x hx).2⟩⟩
    rcases hp i (by rw [f]; simp) with h | h
    · exact .inl (h.trans f)
    · exact .inr ⟨trivial, h⟩
  | d + 1, .node (.mem n g o) l ks, v, hp, _ => hp.elim
def DSt.turned (D : DSt) (k : Nat) (l : Bs) : DSt := { D with kept := aset (k : Int) l D.kept }
theorem turned_good {D : DSt} {k : Nat} {l : Bs} (hl : l.length = 8192) (j : Nat) : (DSt.turned D k l).good j = if j = k then l else D.good j := by
  unfold DSt.turned DSt.good
  by_cases h : j = k
  · subst h
    rw [if_pos rfl]
    simp only [aget_aset_same, Option.getD_some]
    exact padB_same hl
  · rw [if_neg h]
    have h2 : (j : Int) ≠ (k : Int) := by omega
    simp only [aget_aset_other h2]
theorem turned_read {D : DSt} {k : Nat} {l : Bs} (ho : D.opn = []) (hl : l.length = 8192) (j : Nat) : (DSt.turned D k l).read j = if j = k then l else D.read j := by
  have h1 : ∀ E : DSt, E.opn = [] → E.read j = E.good j := fun E h => by
    unfold DSt.read
    rw [h]; rfl
  rw [h1 _ (show (DSt.turned D k l).opn = [] from ho), h1 _ ho]
  exact turned_good hl j
theorem turned_ok {D : DSt} {k : Nat} {l : Bs} (h : DOk D) (hl : l.length = 8192) : DOk (DSt.turned D k l) := ⟨fun j => by
  rw [turned_good hl]
  split
  · exact hl
  · exact h.good j, h.opn⟩
theorem turned_heads {D : DSt} {k : Nat} {l : Bs} (ho : D.opn = []) (hl : l.length = 8192) (hk : 2 ≤ k) : openF (headsOf (DSt.turned D k l)) = openF (headsOf D) := by
  refine openF_congr ?_ ?_ <;> unfold headsOf <;> rw [turned_read ho hl, if_neg (by omega)] <;> rfl
theorem turned_pgs {D : DSt} {k : Nat} {l : Bs} (ho : D.opn = []) (hl : OneOff (D.good k) l) (h8 : (D.good k).length = 8192) (id : Nat) (hp : pgs D id ≠ none) : pgs (DSt.turned D k l) id = pgs D id ∨ pgs (DSt.turned D k l) id = none := by
  have hl8 : l.length = 8192 := by rw [← hl.len]; exact h8
  unfold pgs at *
  rw [turned_read ho hl8]
  by_cases h : id = k
  · subst h
    rw [if_pos rfl]
    have h1 : D.read id = D.good id := by unfold DSt.read; rw [ho]; rfl
    rw [h1] at hp
    cases hx : pageOf (D.good id) with
    | none => exact absurd hx hp
    | some b => exact .inr (page_flip hx hl)
  · rw [if_neg h]; exact .inl rfl
end Go.Proofs.Ytcmicdcikechkaa
end
