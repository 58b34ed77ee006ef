import Derived.Test.YtcmicdcikechkaaGreatKeeps29
import Derived.Test.YtcmicdcikechkaaGreatKeeps28
import Derived.Test.YtcmicdcikechkaaGreatKeeps20
set_option linter.all false
namespace Go.Proofs.YtcmicdcikechkaaGreat
open Go.RowKit Go.H
set_option maxRecDepth 100000
section
set_option maxHeartbeats 1000000
def mix {α : Type} (n : Nat) (x y : List α) : List α := x.take n ++ y.drop n
theorem zcw {α : Type} {n : Nat} {x y : List α} (h : x.length = y.length) (i : Nat) : (mix n x y)[i]? = if i < n then x[i]? else y[i]? := by
 unfold mix
 by_cases hi : i < n
 · rw [if_pos hi]
   by_cases hx : i < x.length
   · rw [List.getElem?_append_left (by simp; omega), List.getElem?_take_of_lt hi]
   · rw [List.getElem?_eq_none (l := x) (by omega), List.getElem?_eq_none (by simp; omega)]
 · rw [if_neg hi]
   by_cases hx : n ≤ x.length
   · rw [List.getElem?_append_right (by simp; omega), List.length_take, List.getElem?_drop]
     congr 1; omega
   · rw [List.getElem?_eq_none (l := y) (by omega), List.getElem?_eq_none (by simp; omega)]
theorem zcx {α : Type} {n : Nat} {x y : List α} (h : x.length = y.length) : (mix n x y).length = y.length := by
 unfold mix; simp; omega
theorem zcy {α : Type} {a c : Nat} {x y : List α} (h : x.length = y.length) : mix a x (mix c x y) = mix (max a c) x y := by
 refine List.ext_getElem? fun i => ?_
 rw [zcw (by rw [zcx h]; exact h), zcw h, zcw h]
 by_cases h1 : i < a <;> by_cases h2 : i < c
 · rw [if_pos h1, if_pos (by omega)]
 · rw [if_pos h1, if_pos (by omega)]
 · rw [if_neg h1, if_pos h2, if_pos (by omega)]
 · rw [if_neg h1, if_neg h2, if_neg (by omega)]
def fld {α : Type} (k n : Nat) (l : List α) : List α := (l.drop k).take n
theorem zcz {α : Type} {k n : Nat} {l : List α} (i : Nat) : (fld k n l)[i]? = if i < n then l[k + i]? else none := by
 unfold fld
 by_cases h : i < n
 · rw [if_pos h, List.getElem?_take_of_lt h, List.getElem?_drop]
 · rw [if_neg h, List.getElem?_eq_none]; simp; omega
theorem zd0 {α : Type} {k n : Nat} {l : List α} (h : k + n ≤ l.length) : (fld k n l).length = n := by unfold fld; simp; omega
theorem zd1 {α : Type} {k n a : Nat} {x y : List α} (h : x.length = y.length) (hl : k + n ≤ x.length) : fld k n (mix a x y) = mix (a - k) (fld k n x) (fld k n y) := by
 refine List.ext_getElem? fun i => ?_
 rw [zcz, zcw h, zcw (x := fld k n x) (y := fld k n y) (by rw [zd0 hl, zd0 (by omega)]), zcz, zcz]
 by_cases h1 : i < n
 · rw [if_pos h1, if_pos h1, if_pos h1]
   by_cases h2 : k + i < a
   · rw [if_pos h2, if_pos (by omega)]
   · rw [if_neg h2, if_neg (by omega)]
 · rw [if_neg h1, if_neg h1, if_neg h1]; split <;> rfl
theorem zd2 {n root : Nat} (hn : n < 4294967296) (l : Bs) : fld 4 8 (headB n root ++ l) = bigB n 8 ∧ fld 16 4 (headB n root ++ l) = bigB n 4 := by
 have e8 : (bigB n 8).length = 8 := z18 _ _
 have e4 : (bigB root 4).length = 4 := z18 _ _
 have e5 : (bigB n 4).length = 4 := z18 _ _
 have hh : headB n root ++ l = [104, 101, 97, 100] ++ (bigB n 8 ++ (bigB root 4 ++ (bigB n 4 ++ l))) := by
  simp only [headB, Nat.mod_eq_of_lt hn, List.append_assoc]
 constructor
 · unfold fld
   rw [hh, List.drop_append_of_le_length (by simp), List.drop_of_length_le (by simp), List.nil_append, List.take_append_of_le_length (by omega), List.take_of_length_le (by omega)]
 · unfold fld
   rw [hh, show 16 = 4 + (8 + 4) from rfl, ← List.drop_drop, List.drop_append_of_le_length (by simp), List.drop_of_length_le (l := [104, 101, 97, 100]) (by simp), List.nil_append, ← List.drop_drop, List.drop_append_of_le_length (by omega), List.drop_of_length_le (l := bigB n 8) (by omega), List.nil_append, List.drop_append_of_le_length (by omega), List.drop_of_length_le (l := bigB root 4) (by omega), List.nil_append, List.take_append_of_le_length (by omega), List.take_of_length_le (by omega)]
def Stale (num : Nat) (b : Bs) : Prop := b.length = 8192 ∧ b.drop 20 = List.replicate 8172 0 ∧ ∃ N O, N ≤ 19 ∧ O ≤ num ∧ (O < num ∨ num = 0) ∧ O % 256 ≠ (num + 1) % 256 ∧ fld 4 8 b = mix (N - 4) (bigB (num + 1) 8) (bigB O 8) ∧ fld 16 4 b = mix (N - 16) (bigB (num + 1) 4) (bigB O 4)
theorem zd3 {u v n : Nat} (hu : u < 256 ^ n) (hv : v < 256 ^ n) (h : bigB u n = bigB v n) : u = v := by
 have h1 := congrArg smallN h
 rwa [z1b, z1b, Nat.mod_eq_of_lt hu, Nat.mod_eq_of_lt hv] at h1
theorem zd4 (u : Nat) : ∀ n, (bigB u (n + 1))[n]? = some (UInt8.ofNat u)
 | 0 => by simp [bigB]
 | n + 1 => by
   have ih := zd4 u n
   show (UInt8.ofNat (u / 256 ^ (n + 1)) :: bigB u (n + 1))[n + 1]? = _
   rw [List.getElem?_cons_succ]; exact ih
theorem zd5 (u : Nat) (n : Nat) : ∀ k, (bigB u (k + n)).take k = bigB (u / 256 ^ n) k
 | 0 => rfl
 | k + 1 => by
   have ih := zd5 u n k
   rw [show k + 1 + n = (k + n) + 1 by omega]
   simp only [bigB, List.take_succ_cons]
   rw [ih, Nat.div_div_eq_div_mul, ← Nat.pow_add]
   congr 3
   rw [Nat.add_comm]
theorem zd6 {a b : Nat} (h : a % 256 ≠ b % 256) : UInt8.ofNat a ≠ UInt8.ofNat b := fun e => h (by
 have := congrArg UInt8.toNat e
 simpa using this)
theorem zd7 {num blocks : Nat} {b : Bs} (h : Stale num b) (hn : num < 1000001) : (readHeadF b blocks).2 = true → ((readHeadF b blocks).1.1 < num ∨ num = 0 ∧ (readHeadF b blocks).1 = (0, 0)) := by
 obtain ⟨h1, h2, N, O, hN, hO, hO2, hO3, f1, f2⟩ := h
 unfold readHeadF
 by_cases hz : zeroB b = true
 · rw [if_pos hz]
   intro _
   by_cases h0 : num = 0
   · exact .inr ⟨h0, rfl⟩
   · exact .inl (by show 0 < num; omega)
 · rw [if_neg hz]
   intro hf
   simp only [] at hf ⊢
   unfold headFine at hf
   simp only [Bool.and_eq_true, Bool.or_eq_true, decide_eq_true_eq] at hf
   obtain ⟨⟨⟨⟨⟨t1, t2⟩, t3⟩, t4⟩, t5⟩, t6⟩ := hf
   obtain ⟨y, hy⟩ : ∃ y, y = (headOf b).2 := ⟨_, rfl⟩
   rw [← hy] at t1 t4 t5 t6
   obtain ⟨x, hx⟩ : ∃ x, x = (headOf b).1 := ⟨_, rfl⟩
   rw [← hx] at t1 t3 t6 ⊢
   have hb : b = headB x y ++ b.drop 20 := by
    conv => lhs; rw [← List.take_append_drop 20 b]
    rw [t1]
   have g1 : fld 4 8 b = bigB x 8 := by
    have e8 : (bigB x 8).length = 8 := z18 _ _
    rw [hb]
    unfold fld
    rw [show headB x y = [104, 101, 97, 100] ++ (bigB x 8 ++ (bigB y 4 ++ bigB (x % 4294967296) 4)) by simp only [headB, List.append_assoc], List.append_assoc, List.drop_append_of_le_length (by simp), List.drop_of_length_le (by simp), List.nil_append, List.append_assoc, List.take_append_of_le_length (by omega), List.take_of_length_le (by omega)]
   have hx32 : x < 4294967296 := by
    have h5 : (bigB x 8).take 4 = bigB 0 4 := by
     rw [← g1, f1]
     refine List.ext_getElem? fun i => ?_
     by_cases hi : i < 4
     · rw [List.getElem?_take_of_lt hi, zcw (by rw [z18, z18])]
       have hq : ∀ q : Nat, q < 4294967296 → (bigB q 8)[i]? = (bigB 0 4)[i]? := fun q hq => by
        have := zd5 q 4 4
        rw [Nat.div_eq_of_lt (by omega)] at this
        rw [← this, List.getElem?_take_of_lt hi]
       split
       · exact hq _ (by omega)
       · exact hq _ (by omega)
     · rw [List.getElem?_eq_none (by simp; omega), List.getElem?_eq_none (by rw [z18]; omega)]
    rw [zd5 x 4 4] at h5
    have h6 := zd3 (n := 4) (by have : x / 256 ^ 4 < 256 ^ 4 := (by omega); exact this) (by decide) h5
    omega
   have g2 : fld 16 4 b = bigB x 4 := by rw [hb]; exact (zd2 hx32 _).2
   by_cases h16 : N ≤ 16
   · have h7 : bigB x 4 = bigB O 4 := by
      rw [← g2, f2, show N - 16 = 0 by omega]
      rfl
     have h8 := zd3 (n := 4) (by omega) (by omega) h7
     rcases hO2 with hO2 | hO2
     · exact .inl (by omega)
     · refine .inr ⟨hO2, ?_⟩
       have : x = 0 := by omega
       rcases t6 with t6 | t6
       · exact absurd this t6
       · exact Prod.ext (hx.symm.trans this) (hy.symm.trans t6)
   · exfalso
     have h7 : bigB x 8 = bigB (num + 1) 8 := by
      rw [← g1, f1]
      unfold mix
      rw [List.take_of_length_le (by rw [z18]; omega), List.drop_of_length_le (by rw [z18]; omega), List.append_nil]
     have h8 := zd3 (n := 8) (by omega) (by omega) h7
     have h9 : (bigB x 4)[3]? = (bigB O 4)[3]? := by
      rw [← g2, f2, zcw (by rw [z18, z18]), if_neg (by omega)]
     rw [zd4 x 3, zd4 O 3] at h9
     injection h9 with h9
     exact zd6 (by rw [h8]; exact fun e => hO3 e.symm) h9
theorem zd8 {num rt n : Nat} {b : Bs} (h : Stale num b) (hn : num < 1000000) (h19 : n ≤ 19) : Stale num ((padB (headB (num + 1) rt)).take n ++ b.drop n) := by
 obtain ⟨h1, h2, N, O, hN, hO, hO2, hO3, f1, f2⟩ := h
 have hp : padB (headB (num + 1) rt) = headB (num + 1) rt ++ List.replicate 8172 0 := by rw [padB, z4e]
 have hpl : (padB (headB (num + 1) rt)).length = 8192 := by rw [hp]; simp [z4e]
 have hl : (padB (headB (num + 1) rt)).length = b.length := hpl.trans h1.symm
 obtain ⟨q1, q2⟩ := zd2 (n := num + 1) (root := rt) (by omega) (List.replicate 8172 0)
 rw [← hp] at q1 q2
 refine ⟨(zcx hl).trans h1, ?_, max n N, O, by omega, hO, hO2, hO3, ?_, ?_⟩
 · rw [← h2]
   refine List.ext_getElem? fun i => ?_
   have := zcw (n := n) hl (20 + i)
   unfold mix at this
   rw [List.getElem?_drop, List.getElem?_drop, this, if_neg (by omega)]
 · have := zd1 (k := 4) (n := 8) (a := n) hl (by omega)
   unfold mix at this
   rw [this, q1, f1]
   have h3 := zcy (a := n - 4) (c := N - 4) (x := bigB (num + 1) 8) (y := bigB O 8) (by rw [z18, z18])
   rw [show max n N - 4 = max (n - 4) (N - 4) by omega]
   exact h3
 · have := zd1 (k := 16) (n := 4) (a := n) hl (by omega)
   unfold mix at this
   rw [this, q2, f2]
   have h3 := zcy (a := n - 16) (c := N - 16) (x := bigB (num + 1) 4) (y := bigB O 4) (by rw [z18, z18])
   rw [show max n N - 16 = max (n - 16) (N - 16) by omega]
   exact h3
theorem zd9 {num rt n : Nat} {b : Bs} (h : Stale num b) (h20 : 20 ≤ n) : (padB (headB (num + 1) rt)).take n ++ b.drop n = padB (headB (num + 1) rt) := by
 obtain ⟨h1, h2, -⟩ := h
 have hp : padB (headB (num + 1) rt) = headB (num + 1) rt ++ List.replicate 8172 0 := by rw [padB, z4e]
 have hpl : (padB (headB (num + 1) rt)).length = 8192 := by rw [hp]; simp [z4e]
 have hl : (padB (headB (num + 1) rt)).length = b.length := hpl.trans h1.symm
 refine List.ext_getElem? fun i => ?_
 have := zcw (n := n) hl i
 unfold mix at this
 rw [this]
 split
 · rfl
 · have e1 : b[i]? = (b.drop 20)[i - 20]? := by rw [List.getElem?_drop]; congr 1; omega
   have e2 : (padB (headB (num + 1) rt))[i]? = (List.replicate 8172 (0 : UInt8))[i - 20]? := by
    rw [hp, List.getElem?_append_right (by rw [z4e]; omega), z4e]
   rw [e1, e2, h2]
theorem zda {num rt : Nat} (hn : num < 1000000) : Stale (num + 1) (padB (headB num rt)) := by
 have hp : padB (headB num rt) = headB num rt ++ List.replicate 8172 0 := by rw [padB, z4e]
 obtain ⟨q1, q2⟩ := zd2 (n := num) (root := rt) (by omega) (List.replicate 8172 0)
 rw [← hp] at q1 q2
 refine ⟨by rw [hp]; simp [z4e], ?_, 0, num, by omega, by omega, .inl (by omega), by omega, by rw [q1]; rfl, by rw [q2]; rfl⟩
 rw [hp, List.drop_append_of_le_length (by rw [z4e]; omega), List.drop_of_length_le (by rw [z4e]; omega)]; rfl
theorem zdb : ∀ n, bigB 0 n = List.replicate n 0
 | 0 => rfl
 | n + 1 => by simp only [bigB, Nat.zero_div, List.replicate_succ, zdb n]; rfl
theorem zdc {num : Nat} (hn : num < 1000000) (h0 : num = 0 ∨ num = 1) : Stale num (List.replicate 8192 0) := by
 have hf : ∀ k n, k + n ≤ 8192 → fld k n (List.replicate 8192 (0 : UInt8)) = bigB 0 n := fun k n h => by
  rw [zdb]
  unfold fld
  rw [List.drop_replicate, List.take_replicate]
  congr 1; omega
 exact ⟨List.length_replicate, by rw [List.drop_replicate], 0, 0, by omega, by omega, by omega, by omega, by rw [hf 4 8 (by omega)]; rfl, by rw [hf 16 4 (by omega)]; rfl⟩
def HeadsOk (rd : Nat → Bs) (num root : Nat) : Prop := (if num = 0 then root = 0 ∧ rd 0 = List.replicate 8192 0 else rd (num % 2) = padB (headB num root)) ∧ Stale num (rd ((num + 1) % 2))
theorem zdd (blocks : Nat) : readHeadF (List.replicate 8192 0) blocks = ((0, 0), true) := by
 unfold readHeadF
 rw [if_pos]
 unfold zeroB
 rw [decide_eq_true]
 rw [List.length_replicate]
theorem zde {rd : Nat → Bs} {num root blocks : Nat} (h : HeadsOk rd num root) (hn : num < 1000001) (hr : root ≠ 1) (hr2 : root < blocks) (hb : blocks ≤ 5002) : openF (fun k => readHeadF (rd k) blocks) = some (num, root) := by
 obtain ⟨h1, h2⟩ := h
 have h3 := zd7 (blocks := blocks) h2 hn
 obtain ⟨⟨⟨a, q⟩, o⟩, e⟩ : ∃ x, x = readHeadF (rd ((num + 1) % 2)) blocks := ⟨_, rfl⟩
 rw [← e] at h3
 simp only [Prod.mk.injEq] at h3
 by_cases h0 : num = 0
 · subst h0
   rw [if_pos rfl] at h1
   obtain ⟨rfl, h1⟩ := h1
   have e0 : readHeadF (rd 0) blocks = ((0, 0), true) := by rw [h1]; exact zdd _
   have e1 : readHeadF (rd 1) blocks = ((a, q), o) := e.symm
   unfold openF
   simp only [openAcc, openStep, e0, e1]
   cases o
   · simp
   · have := h3 rfl
     have : a = 0 := by omega
     subst this
     simp
 · rw [if_neg h0] at h1
   have em : readHeadF (rd (num % 2)) blocks = ((num, root), true) := by rw [h1]; exact zcv h0 (by omega) hr hr2 hb
   have hlt : o = true → a < num := fun ho => by have := h3 ho; omega
   rcases Nat.mod_two_eq_zero_or_one num with hm | hm
   · have hm2 : (num + 1) % 2 = 1 := by omega
     rw [hm] at em
     rw [hm2] at e
     unfold openF
     simp only [openAcc, openStep, em, ← e]
     cases o
     · simp; omega
     · have := hlt rfl
       have h5 : ¬ num < a := by omega
       simp [h5]; omega
   · have hm2 : (num + 1) % 2 = 0 := by omega
     rw [hm] at em
     rw [hm2] at e
     unfold openF
     simp only [openAcc, openStep, em, ← e]
     cases o
     · simp; omega
     · have := hlt rfl
       simp [this]; omega
theorem zdf {rd rd' : Nat → Bs} {num root root' : Nat} (h : HeadsOk rd num root) (hn : num < 1000000) (h1 : rd' ((num + 1) % 2) = padB (headB (num + 1) root')) (h2 : rd' (num % 2) = rd (num % 2)) : HeadsOk rd' (num + 1) root' := by
 refine ⟨by rw [if_neg (by omega)]; exact h1, ?_⟩
 rw [show (num + 1 + 1) % 2 = num % 2 by omega, h2]
 by_cases h0 : num = 0
 · have h3 := h.1
   rw [if_pos h0] at h3
   subst h0
   rw [show rd (0 % 2) = _ from h3.2]
   exact zdc (by omega) (.inr rfl)
 · have h3 := h.1
   rw [if_neg h0] at h3
   rw [h3]
   exact zda hn
theorem zdg {rd rd' : Nat → Bs} {num root : Nat} (h : HeadsOk rd num root) (h0 : rd' 0 = rd 0) (h1 : rd' 1 = rd 1) : HeadsOk rd' num root := by
 have hk : ∀ k, k < 2 → rd' k = rd k := fun k hk => by
  have : k = 0 ∨ k = 1 := by omega
  rcases this with rfl | rfl
  · exact h0
  · exact h1
 unfold HeadsOk at *
 rw [h0, hk (num % 2) (by omega), hk ((num + 1) % 2) (by omega)]
 exact h
theorem zdh {rd rd' : Nat → Bs} {num root root' n : Nat} (h : HeadsOk rd num root) (hn : num < 1000000) (h1 : rd' ((num + 1) % 2) = (padB (headB (num + 1) root')).take n ++ (rd ((num + 1) % 2)).drop n) (h2 : rd' (num % 2) = rd (num % 2)) : HeadsOk rd' num root ∨ HeadsOk rd' (num + 1) root' := by
 by_cases h20 : 20 ≤ n
 · rw [zd9 h.2 h20] at h1
   exact .inr (zdf h hn h1 h2)
 · refine .inl ⟨?_, by rw [h1]; exact zd8 h.2 hn (by omega)⟩
   have h3 := h.1
   by_cases h0 : num = 0
   · rw [if_pos h0] at h3 ⊢
     subst h0
     exact ⟨h3.1, (show rd' (0 % 2) = _ from h2).trans h3.2⟩
   · rw [if_neg h0] at h3 ⊢
     rw [h2]; exact h3
theorem zdi {D : DSt} (h : ∀ k, D.read k = List.replicate 8192 0) : HeadsOk D.read 0 0 := ⟨by rw [if_pos rfl]; exact ⟨rfl, h 0⟩, by rw [h]; exact zdc (by omega) (.inl rfl)⟩
end
section
set_option maxHeartbeats 2000000
structure TSt where
 S : SSt
 D : DSt
 now : Root
 last : Root
 gone : List Nat
 live : List Nat
 held : List Nat
def rootPage : Root → Prop
 | none => True
 | some (_, t) => t.isPage
def rootId : Root → Nat
 | none => 0
 | some (_, t) => t.id
structure Books (Z : TSt) : Prop where
 st : Z.S.state = ones Z.held
 hn : Z.held.Nodup
 ln : Z.live.Nodup
 hl : ∀ x, x ∈ Z.held ↔ x ∈ Z.live
 hb : ∀ x ∈ Z.held, 2 ≤ x ∧ x < Z.S.pages + 2
 b1 : ∀ id, rcnt (.pg id) Z.now + Z.gone.count id = if id ∈ Z.live then 1 else 0
 b2 : ∀ id, rcnt (.pg id) Z.last = if id ∈ Z.live then 1 else 0
 bc : ∀ b j, rcnt (.cl b j) Z.now ≤ 1
 lp : rootPage Z.last
 room : rootDirty Z.now ≤ Z.S.pages - Z.S.state.length
 opn : Z.D.opn = []
 ok : DOk Z.D
 sn : Sorted (rootL Z.now)
 sl : Sorted (rootL Z.last)
 num : Z.S.num ≤ 1000000
 bn : (rootL Z.now).length ≤ 90000
 bl : (rootL Z.last).length ≤ 90000
 head : HeadsOk Z.D.read Z.S.num (rootId Z.last)
theorem Books.gn {Z : TSt} (h : Books Z) : Z.gone.Nodup ∧ ∀ x ∈ Z.gone, x ∈ Z.live := by
 refine ⟨List.nodup_iff_count.2 fun a => ?_, fun x hx => ?_⟩
 · have := h.b1 a
   split at this <;> omega
 · have h1 := List.count_pos_iff.2 hx
   have := h.b1 x
   split at this
   · assumption
   · omega
theorem Books.hlen {Z : TSt} (h : Books Z) : Z.held.length ≤ Z.S.pages := by
 have := z91 (b := (List.range Z.S.pages).map (· + 2)) h.hn fun x hx => by
  have := h.hb x hx
  exact List.mem_map.2 ⟨x - 2, List.mem_range.2 (by omega), by show x - 2 + 2 = x; omega⟩
 simpa using this
theorem Books.slen {Z : TSt} (h : Books Z) : Z.S.state.length ≤ Z.S.pages := by rw [h.st, z90]; exact h.hlen
theorem Books.glen {Z : TSt} (h : Books Z) : Z.gone.length ≤ Z.S.pages := by
 have := z91 h.gn.1 fun x hx => (h.hl x).2 (h.gn.2 x hx)
 have := h.hlen
 omega
theorem zdj : ∀ {d m : Nat} {t : T}, 1 ≤ m → Shape d m t → d ≤ (flat d t).length
 | 0, _, _, _, _ => Nat.zero_le _
 | d + 1, m, .node nm l ks, hm, h => by
   obtain ⟨h1, h2, h3, h4⟩ := h
   by_cases hd : d = 0
   · subst hd
     show 1 ≤ (if 0 = 0 then l else _).length
     rw [if_pos rfl]; omega
   · rw [if_neg hd] at h4
     show d + 1 ≤ (if d = 0 then l else _).length
     rw [if_neg hd]
     cases ks with
     | nil => simp at h4
     | cons k ks =>
       cases l with
       | nil => simp at h1; omega
       | cons x l =>
         cases ks with
         | nil => simp at h4
         | cons k2 ks =>
           have := zdj (by omega) (h4.2 k (by simp))
           simp [inter, interT]; omega
theorem zdk {o : Root} (h : RootSh o) : rootD o ≤ (rootL o).length := by
 cases o with
 | none => exact Nat.zero_le _
 | some p => exact zdj (Nat.le_refl _) h
theorem RootAt.sh {c : Nat → Nat} {rn : Nat} {w : World} {pg : Nat → Option Bs} {N : Nat} {X : Prop} {o : Root} {v : Value} (h : RootAt c rn w pg N X o v) : RootSh o := by
 cases o with
 | none => trivial
 | some p => exact h.2
theorem RootAt.pageW {c c' : Nat → Nat} {rn rn' : Nat} {w w' : World} {pg : Nat → Option Bs} {N : Nat} {X : Prop} {o : Root} {v : Value} (hp : rootPage o) (h : RootAt c rn w pg N X o v) : RootAt c' rn' w' pg N X o v := by
 cases o with
 | none => exact h
 | some p => exact ⟨Rep.pageW hp h.1, h.2⟩
theorem RootAt.pg {c : Nat → Nat} {rn : Nat} {w : World} {pg pg' : Nat → Option Bs} {N : Nat} {X : Prop} {o : Root} {v : Value} (hp : ∀ id, 0 < rcnt (.pg id) o → pg' id = pg id) (h : RootAt c rn w pg N X o v) : RootAt c rn w pg' N X o v := by
 cases o with
 | none => exact h
 | some p => exact ⟨Rep.pg hp h.1, h.2⟩
structure TreeIn (c : Nat → Nat) (r rn rm : Nat) (w : World) (tp st lm km : Nat) (nr lr gv ov : Value) (Z : TSt) (k : Nat) (sn : List Value) : Prop where
 hd : Hd c r w tp st Z.S Z.D
 cl : Cl w c
 blk : w.heap[tp]? = some (.cells (TreeCells st nr ((rootL Z.now).length : Int) (rootD Z.now : Int) lr ((rootL Z.last).length : Int) (rootD Z.last : Int) lm gv ov km) 77 (0, 0))
 gr : w.ownsRow 0 3 1 gv Z.gone.length (Z.gone.map natV)
 go : ∀ b, gv.ownBlock = some b → c b = r
 orow : w.ownsRow 0 57 1 ov k sn
 oo : ∀ b, ov.ownBlock = some b → c b = rm
 live : MapIs w lm (vmap (ones Z.live))
 lmo : c lm = rm
 kept : MapIs w km []
 kmo : c km = rm
 lk : lm ≠ km
 now : RootAt c rn w (pgs Z.D) Z.D.blocks False Z.now nr
 last : RootAt c rn w (pgs Z.D) Z.D.blocks False Z.last lr
 bk : Books Z
structure Owners (r rn rm : Nat) : Prop where
 r0 : r ≠ 0
 n0 : rn ≠ 0
 m0 : rm ≠ 0
 nr : rn ≠ r
 mr : rm ≠ r
 nm : rn ≠ rm
def TreeAt (c : Nat → Nat) (r rn rm : Nat) (w : World) (tp : Nat) (Z : TSt) (k : Nat) : Prop := ∃ st lm km nr lr gv ov sn, TreeIn c r rn rm w tp st lm km nr lr gv ov Z k sn
theorem TreeIn.fr {C : Nat → Prop} {c : Nat → Nat} {r rn rm : Nat} {w w' : World} {tp st lm km : Nat} {nr lr gv ov : Value} {Z : TSt} {k : Nat} {sn : List Value} (h : TreeIn c r rn rm w tp st lm km nr lr gv ov Z k sn) (hf : Fr C w w') (h0 : ∀ b, C b → c b ≠ 0) (h1 : ∀ b, C b → c b ≠ r) (h2 : ∀ b, C b → c b ≠ rn) (h3 : ∀ b, C b → c b ≠ rm) : TreeIn c r rn rm w' tp st lm km nr lr gv ov Z k sn :=
 ⟨h.hd.fr hf h1 h0, h.cl.mono hf.size, hf.blk h.blk (fun e => h1 _ e h.hd.own), z0m h.gr hf (fun b hb e => h1 b e (h.go b hb)), h.go, z0m h.orow hf (fun b hb e => h3 b e (h.oo b hb)), h.oo, h.live.fr hf (fun e => h3 _ e h.lmo), h.lmo, h.kept.fr hf (fun e => h3 _ e h.kmo), h.kmo, h.lk, h.now.fr hf h2 h0, h.last.fr hf h2 h0, h.bk⟩
theorem TreeIn.ag {c c' : Nat → Nat} {r rn rm : Nat} {w : World} {tp st lm km : Nat} {nr lr gv ov : Value} {Z : TSt} {k : Nat} {sn : List Value} (h : TreeIn c r rn rm w tp st lm km nr lr gv ov Z k sn) (ha : Ag w.heap.size c c') (hc : Cl w c') : TreeIn c' r rn rm w tp st lm km nr lr gv ov Z k sn :=
 ⟨h.hd.ag ha, hc, h.blk, h.gr, fun b hb => (ha b (h.gr.lt b hb).2).trans (h.go b hb), h.orow, fun b hb => (ha b (h.orow.lt b hb).2).trans (h.oo b hb), h.live, (ha _ h.live.lt).trans h.lmo, h.kept, (ha _ h.kept.lt).trans h.kmo, h.lk, h.now.ag ha, h.last.ag ha, h.bk⟩
theorem TreeAt.fr {C : Nat → Prop} {c : Nat → Nat} {r rn rm : Nat} {w w' : World} {tp : Nat} {Z : TSt} {k : Nat} (h : TreeAt c r rn rm w tp Z k) (hf : Fr C w w') (h0 : ∀ b, C b → c b ≠ 0) (h1 : ∀ b, C b → c b ≠ r) (h2 : ∀ b, C b → c b ≠ rn) (h3 : ∀ b, C b → c b ≠ rm) : TreeAt c r rn rm w' tp Z k := by
 obtain ⟨st, lm, km, nr, lr, gv, ov, sn, h⟩ := h
 exact ⟨st, lm, km, nr, lr, gv, ov, sn, h.fr hf h0 h1 h2 h3⟩
theorem TreeAt.fr0 {c : Nat → Nat} {r rn rm : Nat} {w w' : World} {tp : Nat} {Z : TSt} {k : Nat} (h : TreeAt c r rn rm w tp Z k) (hf : Fr C0 w w') : TreeAt c r rn rm w' tp Z k := h.fr hf (fun _ e => e.elim) (fun _ e => e.elim) (fun _ e => e.elim) (fun _ e => e.elim)
theorem TreeAt.ag {c c' : Nat → Nat} {r rn rm : Nat} {w : World} {tp : Nat} {Z : TSt} {k : Nat} (h : TreeAt c r rn rm w tp Z k) (ha : Ag w.heap.size c c') (hc : Cl w c') : TreeAt c' r rn rm w tp Z k := by
 obtain ⟨st, lm, km, nr, lr, gv, ov, sn, h⟩ := h
 exact ⟨st, lm, km, nr, lr, gv, ov, sn, h.ag ha hc⟩
theorem TreeAt.bk {c : Nat → Nat} {r rn rm : Nat} {w : World} {tp : Nat} {Z : TSt} {k : Nat} (h : TreeAt c r rn rm w tp Z k) : Books Z := by
 obtain ⟨st, lm, km, nr, lr, gv, ov, sn, h⟩ := h
 exact h.bk
theorem TreeAt.lt {c : Nat → Nat} {r rn rm : Nat} {w : World} {tp : Nat} {Z : TSt} {k : Nat} (h : TreeAt c r rn rm w tp Z k) : tp < w.heap.size := by
 obtain ⟨st, lm, km, nr, lr, gv, ov, sn, h⟩ := h
 exact (Array.getElem?_eq_some_iff.1 h.blk).1
theorem zdl {o : Root} (h : RootSh o) (hb : (rootL o).length ≤ 90000) : rootDirty o ≤ 90000 := Nat.le_trans (zbw h) hb
theorem zdm {c : Nat → Nat} {r rn rm : Nat} {w : World} {tp : Nat} {Z : TSt} {k : Nat} {kv vv : Value} {x : KV} (ho : Owners r rn rm) (h : TreeAt c r rn rm w tp Z k) (hk : BytesAt (Dt c) w kv x.1) (hv : BytesAt (Dt c) w vv x.2) (hw : wrong x.1 x.2 = 0) (hb : (rootL Z.now).length < 90000) :
 Calls Tryz.prog 10 #[.pointer (some ⟨tp, 0, none⟩), kv, vv] w fun e w' =>
  (e = .returned (.int .i64 21) ∧ Fr C0 w w' ∧ ∃ o', rootL o' = putL x (rootL Z.now) ∧ RootSh o' ∧ rootDirty o' ≤ rootDirty Z.now + 2 * rootD Z.now + 1 ∧ Z.S.pages - Z.S.state.length < rootDirty o') ∨
  (e = .returned (.int .i64 0) ∧ Fr (fun b => c b = r) w w' ∧ ∃ c' o' gone', Ag w.heap.size c c' ∧ TreeAt c' r rn rm w' tp { Z with now := o', gone := gone' } k ∧ rootL o' = putL x (rootL Z.now)) := by
 obtain ⟨st, lm, km, nr, lr, gv, ov, sn, h⟩ := h
 have hsh := h.now.sh
 have hdb := zdl hsh (by omega)
 have hD := zdk hsh
 have hg := h.bk.glen
 have hsm := h.hd.alive.small
 have H : Calls Tryz.prog 10 #[.pointer (some ⟨tp, 0, none⟩), kv, vv] w (TPutRes c r rn w tp st lm km Z.S Z.D Z.now lr ov ((rootL Z.last).length : Int) (rootD Z.last : Int) Z.gone x) := by
  have hnow := h.now
  have hblk := h.blk
  cases hz : Z.now with
  | none =>
    rw [hz] at hnow hblk
    obtain rfl := hnow
    exact zcr ho.r0 ho.n0 ho.nr h.hd h.cl hblk h.gr h.go hk hv hw h.bk.slen (by omega)
  | some p =>
    obtain ⟨d, t⟩ := p
    rw [hz] at hnow hblk hdb hD
    have hsn := h.bk.sn
    rw [hz] at hsn hb
    exact zct ho.r0 ho.n0 ho.nr h.hd h.cl hblk h.gr h.go hnow.1 hnow.2 hsn rfl rfl (by show d ≤ _; have : d ≤ (rootL (some (d, t))).length := hD; omega) (by show (rootL (some (d, t))).length ≤ _; omega) (by show rootDirty (some (d, t)) ≤ _; omega) hk hv hw h.bk.slen (by omega)
 refine H.mono ?_
 rintro e w' ⟨o', gone', h1, h2, h3, ⟨rfl, h4, h5⟩ | ⟨rfl, h4, h5, gv', rv', c', ag', cl', hd', ht', og', oc', hr'⟩⟩
 · exact .inl ⟨rfl, h5, o', h1, h2, h3.dirty, h4⟩
 · have hsl : Sorted (rootL o') := by rw [h1]; exact zbo h.bk.sn
   have hpl : (rootL o').length ≤ (rootL Z.now).length + 1 := by rw [h1, zbm h.bk.sn]; split <;> omega
   refine .inr ⟨rfl, h5, c', o', gone', ag', ⟨st, lm, km, rv', lr, gv', ov, sn, hd', cl', ht', og', oc', z0m h.orow h5 (fun b hb e => ho.mr ((h.oo b hb).symm.trans e)), fun b hb => (ag' b (h.orow.lt b hb).2).trans (h.oo b hb), h.live.fr h5 (fun e => ho.mr (h.lmo.symm.trans e)), (ag' _ h.live.lt).trans h.lmo, h.kept.fr h5 (fun e => ho.mr (h.kmo.symm.trans e)), (ag' _ h.kept.lt).trans h.kmo, h.lk, hr', RootAt.pageW h.bk.lp h.last, ?_⟩, h1⟩
   refine ⟨h.bk.st, h.bk.hn, h.bk.ln, h.bk.hl, h.bk.hb, fun id => ?_, h.bk.b2, fun b j => ?_, h.bk.lp, h4, h.bk.opn, h.bk.ok, hsl, h.bk.sl, h.bk.num, by show (rootL o').length ≤ _; omega, h.bk.bl, h.bk.head⟩
   · show rcnt (.pg id) o' + gone'.count id = _
     rw [h3.pg id]; exact h.bk.b1 id
   · have h6 := h3.cl b j
     have h7 := h.bk.bc b j
     show rcnt (.cl b j) o' ≤ 1
     split at h6 <;> omega
end
end Go.Proofs.YtcmicdcikechkaaGreat
