import Derived.Test.YtcmicdcikechkaaGreatPlays53
import Derived.Test.YtcmicdcikechkaaGreatPlays03
set_option linter.all false
set_option autoImplicit true
set_option relaxedAutoImplicit true
namespace Go.Proofs.YtcmicdcikechkaaGreat
open Go.RowKit Go.H
set_option maxHeartbeats 2000000
set_option maxRecDepth 100000
section
variable {w0 w w' : World} {pn d tp N k : Nat} {La Ln Ll Lk : List KV} {c c' : Nat → Nat} {SL S2 : List (Nat × List KV)}
def ptrV (p:Nat×List KV):Value:=.pointer (some ⟨p.1,0,none⟩)
structure PlR (nv kv sv ov:Value) (Ln Lk:List KV) (S2:List (Nat×List KV)) (c:Nat→Nat) (w:World):Prop where
 n:PairsAt (Dt c) w nv Ln
 k:PairsAt (Dt c) w kv Lk
 s:w.ownsRow 0 57 1 sv S2.length (S2.map ptrV)
 s7:∀b,sv.ownBlock=some b→c b=7
 o:∃xs,w.ownsRow 0 45 1 ov S2.length xs∧All2 (fun u p=>∃A cp,u=.slice A p.2.length cp∧PairsAt (Dt c) w u p.2) xs S2
 o7:∀b,ov.ownBlock=some b→c b=7
variable {nv kv sv ov : Value}
theorem PlR.step (h:PlR nv kv sv ov Ln Lk S2 c w) (s:StepA 1 c w c' w'):PlR nv kv sv ov Ln Lk S2 c' w':=by
 have h7:∀b,c b=7→¬OwnR 1 c b:=fun b e e2=>by
  have e':c b=1∨c b=1+1∨c b=1+2:=e2
  omega
 obtain⟨xs,o1,o2⟩:=h.o
 exact⟨s.pairs h.n,s.pairs h.k,z0m h.s s.fr (fun b hb=>h7 b (h.s7 b hb)),fun b hb=>(s.ag b (h.s.lt b hb).2).trans (h.s7 b hb),⟨xs,z0m o1 s.fr (fun b hb=>h7 b (h.o7 b hb)),o2.imp fun u p ⟨A,cp,e,q⟩=>⟨A,cp,e,s.pairs q⟩⟩,fun b hb=>(s.ag b (o1.lt b hb).2).trans (h.o7 b hb)⟩
theorem PlR.fr0 (h:PlR nv kv sv ov Ln Lk S2 c w) (f:Fr C0 w w'):PlR nv kv sv ov Ln Lk S2 c w':=h.step ⟨f.mono fun _ _ e=>e.elim,Ag.refl _ _⟩
theorem PlR.new (h:PlR nv kv sv ov Ln Lk S2 c w) (hn:PairsAt (Dt c) w nv' Ln'):PlR nv' kv sv ov Ln' Lk S2 c w:=⟨hn,h.k,h.s,h.s7,h.o,h.o7⟩
theorem PlR.keep (h:PlR nv kv sv ov Ln Lk S2 c w):PlR nv nv sv ov Ln Ln S2 c w:=⟨h.n,h.n,h.s,h.s7,h.o,h.o7⟩
theorem PlR.back (h:PlR nv kv sv ov Ln Lk S2 c w):PlR kv kv sv ov Lk Lk S2 c w:=⟨h.k,h.k,h.s,h.s7,h.o,h.o7⟩
theorem PlR.none (h:PlR nv kv sv ov Ln Lk S2 c w):PlR nv kv (.slice none 0 0) (.slice none 0 0) Ln Lk [] c w:=
 ⟨h.n,h.k,World.ownsRow_nil _ _ _ _,fun b e=>by simp[Value.ownBlock] at e,⟨[],World.ownsRow_nil _ _ _ _,.nil⟩,fun b e=>by simp[Value.ownBlock] at e⟩
theorem SAt.mv7 (h:SAt w0 pn d tp La Ll N k SL c w) (hf:Fr C w w') (ha:Ag w.heap.size c c') (hc:Cl w' c') (h7:∀b,C b→b<w.heap.size∧c b=7):SAt w0 pn d tp La Ll N k SL c' w':=by
 obtain⟨Z,a,b,e,g,i⟩:=h
 have h8:∀b,C b→c' b=7:=fun b e=>(ha b (h7 b e).1).trans (h7 b e).2
 refine⟨Z,⟨a.fr.trans hf (fun b' hb e=>?_),fun b' hb=>(ha b' (by have:=a.fr.size;omega)).trans (a.ag b' hb),a.tr.moveC hf ha hc (fun b' e=>?_) (fun b' e=>?_) (fun b' e=>?_) (fun b' e=>?_)⟩,b,e,g,i⟩
 · have h1:=(h7 b' e).2
   have h2:c b'=0:=a.ag b' hb
   omega
 all_goals
  have:=h8 b' e
  omega
theorem zkx (h:PairsAt (Dt c) w v L) (hf:Fr C w w') (ha:Ag w.heap.size c c') (h7:∀b,C b→b<w.heap.size∧c b=7):PairsAt (Dt c') w' v L:=
 ((h.mono (F' := fun b => c b = 0 ∧ b < w.heap.size) (fun b hb hl => ⟨hb, hl⟩)).fr hf (fun b hb e => by
   have h1:=(h7 b e).2
   have h2:=hb.1
   omega)).mono (fun b hb _=>(ha b hb.2).trans hb.1)
theorem zky {sp:Nat} {cp:Nat} (a:SAt w0 pn d tp La Ll N k SL c w) (h:PlR nv (.slice A Lk.length cp) sv ov Ln Lk S2 c w) (f1:Fr C0 w w1) (o2:w2.ownsRow 0 57 1 sv2 (S2.length+1) (S2.map ptrV++[.pointer (some ⟨sp,0,none⟩)])) (f2:Fr (fun b=>sv.ownBlock=some b) w1 w2) (k2:∀b,sv2.ownBlock=some b→sv.ownBlock=some b∨w1.heap.size≤b) (f3:Fr C0 w2 w3) (hx:All2 (fun u p=>∃A cp,u=.slice A p.2.length cp∧PairsAt (Dt c) w u p.2) xs S2) (hov:w.ownsRow 0 45 1 ov S2.length xs) (o4:w4.ownsRow 0 45 1 ov2 (S2.length+1) (xs++[.slice A Lk.length cp])) (f4:Fr (fun b=>ov.ownBlock=some b) w3 w4) (k4:∀b,ov2.ownBlock=some b→ov.ownBlock=some b∨w3.heap.size≤b):
 ∃c',SAt w0 pn d tp La Ll N k SL c' w4∧PlR nv (.slice A Lk.length cp) sv2 ov2 Ln Lk (S2++[(sp,Lk)]) c' w4∧Ag w.heap.size c c':=by
 have s1:=f1.size
 have s2:=f2.size
 have s3:=f3.size
 have s4:=f4.size
 have hC:∀b,(sv.ownBlock=some b∨ov.ownBlock=some b)→b<w.heap.size∧c b=7:=fun b e=>by
  rcases e with e|e
  · exact⟨(h.s.lt b e).2,h.s7 b e⟩
  · exact⟨(hov.lt b e).2,h.o7 b e⟩
 have F:Fr (fun b=>sv.ownBlock=some b∨ov.ownBlock=some b) w w4:=(((f1.mono (fun _ _ e=>e.elim)).trans f2 (fun b _ e=>.inl e)).trans0 f3).trans f4 (fun b _ e=>.inr e)
 have hne:∀b,sv2.ownBlock=some b→¬ov.ownBlock=some b:=fun b e1 e2=>by
  have hb:sv.ownBlock=some b:=by
   rcases k2 b e1 with e|e
   · exact e
   · have:=(hov.lt b e2).2;omega
  rcases h.s.2 with⟨e,_⟩|⟨g,cap,cur,e,_,hg,_⟩
  · rw[e] at hb;simp[Value.ownBlock] at hb
  · rcases hov.2 with⟨e',_⟩|⟨g',cap',cur',e',_,hg',_⟩
    · rw[e'] at e2;simp[Value.ownBlock] at e2
    · rw[e] at hb
      rw[e'] at e2
      simp[Value.ownBlock] at hb e2
      subst hb e2
      rw[hg] at hg'
      injection hg' with hg'
      injection hg' with h4 h5
      exact absurd h5 (by decide)
 obtain⟨c',hc'⟩:∃c':Nat→Nat,c'=fun b=>if sv2.ownBlock=some b∨ov2.ownBlock=some b then 7 else c b:=⟨_,rfl⟩
 have ag:Ag w.heap.size c c':=fun b hb=>by
  rw[hc']
  by_cases e:sv2.ownBlock=some b∨ov2.ownBlock=some b
  · show(if _ then 7 else c b)=c b
    rw[if_pos e]
    rcases e with e|e
    · rcases k2 b e with e|e
      · exact(h.s7 b e).symm
      · omega
    · rcases k4 b e with e|e
      · exact(h.o7 b e).symm
      · omega
  · show(if _ then 7 else c b)=c b
    rw[if_neg e]
 have cl:Cl w4 c':=fun b hb=>by
  rw[hc']
  show(if _ then 7 else c b)=0
  rw[if_neg,a.cl b (by omega)]
  rintro(e|e)
  · have:=(o2.lt b e).2;omega
  · have:=(o4.lt b e).2;omega
 refine⟨c',a.mv7 F ag cl hC,⟨zkx h.n F ag hC,zkx h.k F ag hC,?_,fun b e=>by rw[hc'];exact if_pos (.inl e),⟨xs++[.slice A Lk.length cp],?_,?_⟩,fun b e=>by rw[hc'];exact if_pos (.inr e)⟩,ag⟩
 · rw[List.length_append,List.map_append]
   exact z0m (z0m o2 f3 (fun _ _ e=>e)) f4 (fun b e e2=>hne b e e2)
 · rw[List.length_append]
   exact o4
 · exact All2.append (hx.imp fun u p ⟨A,cp,e,q⟩=>⟨A,cp,e,zkx q F ag hC⟩) (.cons ⟨A,cp,rfl,zkx h.k F ag hC⟩ .nil)
theorem zkz {α:Type} {l:List α} {i:Nat} (hi:i<l.length) (hn:l.length-1<l.length):l.Perm (l[i]::(l.set i l[l.length-1]).take (l.length-1)):=by
 by_cases e:i=l.length-1
 · subst e
   have h1:(l.set (l.length-1) l[l.length-1]).take (l.length-1)=l.take (l.length-1):=by rw[List.set_getElem_self]
   rw[h1]
   have h2:l=l.take (l.length-1)++[l[l.length-1]]:=by
    rw[←List.take_succ_eq_append_getElem hn,Nat.sub_add_cancel (by omega),List.take_length]
   conv=>lhs;rw[h2]
   exact List.perm_append_comm
 · have h1:(l.set i l[l.length-1]).take (l.length-1)=(l.take (l.length-1)).set i l[l.length-1]:=by
    rw[List.take_set]
   have h2:l=l.take (l.length-1)++[l[l.length-1]]:=by
    rw[←List.take_succ_eq_append_getElem hn,Nat.sub_add_cancel (by omega),List.take_length]
   have hi2:i<(l.take (l.length-1)).length:=by rw[List.length_take];omega
   have h3:l[i]=(l.take (l.length-1))[i]:=by rw[List.getElem_take]
   rw[h1,h3]
   conv=>lhs;rw[h2]
   generalize l.take (l.length-1)=m at *
   generalize l[l.length-1]=y at *
   have h4:m.set i y=m.take i++y::m.drop (i+1):=List.set_eq_take_append_cons_drop .. |>.trans (by rw[if_pos hi2])
   have h5:m=m.take i++m[i]::m.drop (i+1):=by rw[←List.drop_eq_getElem_cons hi2,List.take_append_drop]
   rw[h4]
   conv=>lhs;rw[h5]
   rw[List.append_assoc,List.cons_append]
   exact List.perm_middle.trans (.cons _ (List.Perm.append_left _ (List.perm_append_singleton y _)))
theorem zl0 (n:Int) (j:Nat) (m:Int) (hj:j<62) (hm:m=((2 ^ j-1:Nat):Int)):bits .and .i64 n m=n % ((2 ^ j:Nat):Int):=by
 subst hm
 have h2:2 ^ j<2 ^ 62:=Nat.pow_lt_pow_right (by omega) hj
 have h0:0<2 ^ j:=Nat.two_pow_pos j
 have h7:(BitVec.ofInt 64 ((2 ^ j-1:Nat):Int)).toNat=2 ^ j-1:=by
  rw[BitVec.toNat_ofInt]
  have:((2 ^ j-1:Nat):Int) % ((2 ^ 64:Nat):Int)=((2 ^ j-1:Nat):Int):=Int.emod_eq_of_lt (by omega) (by omega)
  rw[this];rfl
 have key:(BitVec.ofInt 64 n &&& BitVec.ofInt 64 ((2 ^ j-1:Nat):Int)).toNat=(n % ((2 ^ 64:Nat):Int)).toNat % 2 ^ j:=by
  rw[BitVec.toNat_and,BitVec.toNat_ofInt,h7,Nat.and_two_pow_sub_one_eq_mod]
 show IntKind.i64.wrap ((BitVec.ofInt 64 n &&& BitVec.ofInt 64 ((2 ^ j-1:Nat):Int)).toNat:Nat)=_
 rw[key]
 have h3:((n % ((2 ^ 64:Nat):Int)).toNat % 2 ^ j:Nat)<2 ^ j:=Nat.mod_lt _ h0
 have h5:IntKind.i64.wrap (((n % ((2 ^ 64:Nat):Int)).toNat % 2 ^ j:Nat):Int)=(((n % ((2 ^ 64:Nat):Int)).toNat % 2 ^ j:Nat):Int):=by
  generalize (n % ((2 ^ 64:Nat):Int)).toNat % 2 ^ j=q at h3
  exact z0t _ (by omega) (by omega)
 rw[h5]
 have h4:((n % ((2 ^ 64:Nat):Int)).toNat:Int)=n % ((2 ^ 64:Nat):Int):=Int.toNat_of_nonneg (Int.emod_nonneg _ (by omega))
 rw[Int.natCast_emod,h4]
 exact Int.emod_emod_of_dvd n (Int.natCast_dvd_natCast.2 (Nat.pow_dvd_pow 2 (by omega)))
theorem zl1:SlTy Tryz.prog 63 45 1 24:=z2j Tryz.underlying63 (z:=.slice none 0 0) (by kernel_rfl) rfl (by decide)
theorem zl2 {g n cap e:Nat} (h:w.ownsRow 0 e 1 (.slice (some ⟨g,0,none⟩) n cap) n xs) (o:Nat) (ho:o=0) {j:Nat} (hj:xs[j]?=some u):w.cell? ⟨g,o+j,none⟩=some u∧w.frozen? ⟨g,o+j,none⟩=false:=by
 subst ho
 have h1:=h.cells (g:=g) rfl j u hj
 rw[show(⟨g,0,none⟩:Addr).add j=⟨g,0+j,none⟩ by unfold Addr.add;split<;>simp_all] at h1
 refine⟨h1,?_⟩
 rcases h.2 with⟨e1,_⟩|⟨g',cap',cur,e1,_,h2,_⟩
 · cases e1
 · injection e1 with e1
   injection e1 with e1
   injection e1 with e1
   subst e1
   exact z2e _ h2
theorem zl3 {e n:Nat} {cap:Nat} (h:w.ownsRow 0 e 1 (.slice A n cap) n xs) (hn:0<n):∃g,A=some ⟨g,0,none⟩∧n≤cap∧cap≤maxLen:=by
 rcases h.2 with⟨_,e2⟩|⟨g,cap',cur,e1,_,_,h3,h4,_⟩
 · omega
 · injection e1 with e1 e2 e3
   subst e3
   exact⟨g,e1,h3,h4⟩
theorem zl4 {g n cap e i:Nat} (h:w.ownsRow 0 e 1 (.slice (some ⟨g,0,none⟩) n cap) n xs) (x:Value):(w.setCell ⟨g,i,none⟩ x).ownsRow 0 e 1 (.slice (some ⟨g,0,none⟩) n cap) n (xs.set i x):=by
 refine⟨by rw[List.length_set];exact h.1,.inr ?_⟩
 rcases h.2 with⟨e1,_⟩|⟨g',cap',cur,e1,h1,h2,h3,h4,h5,h6⟩
 · cases e1
 · injection e1 with e1 e2 e3
   injection e1 with e1
   injection e1 with e1
   subst e1 e3
   exact⟨g,cap,_,rfl,h1,z2f h2 x,h3,h4,by simpa using h5,by rw[Array.toList_setIfInBounds,List.take_set,h6]⟩
theorem zl5 {g n cap e m:Nat} (h:w.ownsRow 0 e 1 (.slice (some ⟨g,0,none⟩) n cap) n xs) (hm:m≤n):w.ownsRow 0 e 1 (.slice (some ⟨g,0,none⟩) m cap) m (xs.take m):=by
 refine⟨by rw[List.length_take,h.1];omega,.inr ?_⟩
 rcases h.2 with⟨e1,_⟩|⟨g',cap',cur,e1,h1,h2,h3,h4,h5,h6⟩
 · cases e1
 · injection e1 with e1 e2 e3
   injection e1 with e1
   injection e1 with e1
   subst e1 e3
   exact⟨g,cap,cur,rfl,h1,h2,by omega,h4,h5,by rw[←h6,List.take_take,Nat.mul_one,Nat.mul_one,Nat.min_eq_left hm]⟩
theorem zl6 {gs go cs co n i:Nat} (a:SAt w0 pn d tp La Ll N k SL c w) (h:PlR nv kv (.slice (some ⟨gs,0,none⟩) n cs) (.slice (some ⟨go,0,none⟩) n co) Ln Lk S2 c w) (hn:n=S2.length) (hi:i<n) (hx:All2 (fun u p=>∃A cp,u=.slice A p.2.length cp∧PairsAt (Dt c) w u p.2) xs S2) (hov:w.ownsRow 0 45 1 (.slice (some ⟨go,0,none⟩) n co) n xs) (hxv:(S2.map ptrV)[n-1]?=some x) (hyv:xs[n-1]?=some y):
 SAt w0 pn d tp La Ll N k SL c ((w.setCell ⟨gs,i,none⟩ x).setCell ⟨go,i,none⟩ y)∧PlR nv kv (.slice (some ⟨gs,0,none⟩) (n-1) cs) (.slice (some ⟨go,0,none⟩) (n-1) co) Ln Lk ((S2.set i (S2[n-1]'(by omega))).take (n-1)) c ((w.setCell ⟨gs,i,none⟩ x).setCell ⟨go,i,none⟩ y):=by
 have hs7:=h.s7 gs rfl
 have ho7:=h.o7 go rfl
 have hl:=All2.length hx
 have hne:gs≠go:=fun e=>by
  rcases h.s.2 with⟨e1,_⟩|⟨g,cap,cur,e1,_,hg,_⟩
  · cases e1
  · rcases hov.2 with⟨e2,_⟩|⟨g',cap',cur',e2,_,hg',_⟩
    · cases e2
    · injection e1 with e1
      injection e1 with e1
      injection e1 with e1
      injection e2 with e2
      injection e2 with e2
      injection e2 with e2
      subst e1 e2
      rw[←e,hg] at hg'
      injection hg' with hg'
      injection hg' with h4 h5
      exact absurd h5 (by decide)
 have F:Fr (fun b=>b=gs∨b=go) w ((w.setCell ⟨gs,i,none⟩ x).setCell ⟨go,i,none⟩ y):=((Fr.refl (fun b=>b=gs∨b=go) w).setCell (p:=⟨gs,i,none⟩) (.inr (.inl rfl)) x).setCell (p:=⟨go,i,none⟩) (.inr (.inr rfl)) y
 have hC:∀b,(b=gs∨b=go)→b<w.heap.size∧c b=7:=fun b e=>by
  rcases e with rfl|rfl
  · exact⟨(h.s.lt _ rfl).2,hs7⟩
  · exact⟨(hov.lt _ rfl).2,ho7⟩
 subst hn
 have hS:=zl4 (i:=i) h.s x
 have hO:=zl4 (i:=i) (z0m hov ((Fr.refl (fun b=>b=gs) w).setCell (p:=⟨gs,i,none⟩) (.inr rfl) x) (fun b e e2=>hne (by simp[Value.ownBlock] at e;rw[e,←e2]))) y
 have hS2:=z0m hS ((Fr.refl (fun b=>b=go) (w.setCell ⟨gs,i,none⟩ x)).setCell (p:=⟨go,i,none⟩) (.inr rfl) y) (fun b e e2=>hne (by simp[Value.ownBlock] at e;rw[←e2,e]))
 have ht:(((S2.set i (S2[S2.length-1]'(by omega))).take (S2.length-1))).length=S2.length-1:=by rw[List.length_take,List.length_set];omega
 have hxy:x=ptrV (S2[S2.length-1]'(by omega)):=by
  rw[List.getElem?_map,List.getElem?_eq_getElem (by omega)] at hxv
  simpa using hxv.symm
 have hyy:y=xs[S2.length-1]'(by omega):=by
  rw[List.getElem?_eq_getElem (by omega)] at hyv
  simpa using hyv.symm
 refine⟨a.mv7 F (Ag.refl _ _) (a.cl.mono F.size) hC,zkx h.n F (Ag.refl _ _) hC,zkx h.k F (Ag.refl _ _) hC,?_,h.s7,⟨(xs.set i y).take (S2.length-1),?_,?_⟩,h.o7⟩
 · rw[ht]
   have:=zl5 (m:=S2.length-1) hS2 (by omega)
   rwa [List.map_take,List.map_set,←hxy]
 · rw[ht]
   exact zl5 hO (by omega)
 · refine All2.take _ (All2.set ?_ i (hx.imp fun u p ⟨A,cp,e,q⟩=>⟨A,cp,e,zkx q F (Ag.refl _ _) hC⟩))
   obtain⟨A,cp,e,q⟩:=All2.get (S2.length-1) (by omega) (by omega) hx
   rw[←hyy] at e q
   exact⟨A,cp,e,zkx q F (Ag.refl _ _) hC⟩
end
end Go.Proofs.YtcmicdcikechkaaGreat
namespace Go.H
open Go.RowKit
section
section
variable {P : Program} {ops : Array Oper} {Q : Exit → Act → World → Prop} {md : Region.Mode} {S : World → Prop} {late : Nat → Bool}
theorem zl7 {i:Nat} (hi:ops[i]?=some oi) (hl:late i=true) (hsel:∀(j:Nat) (o:Oper) cs b,ops[j]?=some o→o.op≠.select cs b) (hQ:∀c a w,Q (.panic c) (a.put oi.dst v) w→Q (.panic c) a w):
 ∀ (fuel : Nat) (listed : Array Bool) (a : Act) (w : World),
   (∀j oj,ops[j]?=some oj→j≠i→listed.getD j true=false→(∀e∈oj.after,Region.binds md e=true→e.on≠i)→oi.apart ops oj=true)→
   i∈Region.ready md ops listed→YieldsIf P ops (fun _=>True) oi v a→
   wpAnyL P md ops Q S late fuel (listed.setIfInBounds i true) (a.put oi.dst v) w→wpAnyL P md ops Q S late (fuel+1) listed a w:=by
 intro fuel
 induction fuel with
 | zero =>
   intro listed a w _ hr hy H
   refine⟨fun h=>(by rw[h] at hr;cases hr),fun j hj=>?_⟩
   by_cases hji:j=i
   · subst hji;exact hy.wpOp hi trivial ⟨fun h=>(by rw[hl] at h;cases h),H⟩
   · have:=ready_mono hj hji
     rw[H.1] at this
     cases this
 | succ fuel ih =>
   intro listed a w hfree hr hy H
   refine⟨fun h=>(by rw[h] at hr;cases hr),fun j hj=>?_⟩
   by_cases hji:j=i
   · subst hji;exact hy.wpOp hi trivial ⟨fun h=>(by rw[hl] at h;cases h),H⟩
   · have h1:=H.2 j (ready_mono hj hji)
     obtain⟨hjun,oj,hoj,hall⟩:=mem_ready.1 hj
     have hnot:∀e∈oj.after,Region.binds md e=true→e.on≠i:=fun e he hb heq=>by
      have h1:=hall e he hb
      have h0:=(mem_ready.1 hr).1
      rw[heq] at h1
      rcases Nat.lt_or_ge i listed.size with h'|h'
      · simp[h'] at h0 h1;rw[h0] at h1;cases h1
      · simp[Array.getElem?_eq_none h'] at h1
     have h2:=wpOp_putIf hoj (hfree j oj hoj hji hjun hnot) (fun cs b=>hsel i oi cs b hi) (fun cs b=>hsel j oj cs b hoj) hQ hy h1
     have hfree':∀k ok,ops[k]?=some ok→k≠i→(listed.setIfInBounds j true).getD k true=false→
      (∀e∈ok.after,Region.binds md e=true→e.on≠i)→oi.apart ops ok=true:=fun k ok hk hki hun hno=>by
      refine hfree k ok hk hki ?_ hno
      by_cases hjk:j=k
      · subst hjk;exact hjun
      · rw[getD_set_ne true hjk] at hun;exact hun
     refine wpOp_mono (fun a' w' h3=>⟨h3.2.1,ih (listed.setIfInBounds j true) a' w' hfree' (ready_mono hr (Ne.symm hji)) h3.1 ?_⟩) h2
     rw[Array.setIfInBounds_comm _ _ hji]
     exact h3.2.2
theorem tkT (i:Nat) {ty_:TypeId} {fuel:Nat} (h:wpAnyL P md ops Q S late fuel (listed.setIfInBounds i true) a' w) (hi:ops[i]?=some (⟨d_,op_,ty_,ps_,af_,gd_⟩:Oper):=by rfl) (hy:∀w,(execOp a.eval (⟨d_,op_,ty_,ps_,af_,gd_⟩:Oper)).run P w=.ok (.value v) w:=by(intro w_;first|(go_simp;done)|(go_simp;with_reducible rfl))) (hp:a.put d_ v=a':=by(first|(simp only[Act.put,zs1,zs2,zs3];done)|(simp only[Act.put,zs1,zs2,zs3];exact rfl)|exact rfl)) (hw:Region.wanted (⟨d_,op_,ty_,ps_,af_,gd_⟩:Oper) (yielded ops a.tmps)=true:=by rfl) (hl:late i=true:=by kernel_rfl) (hs:(Region.noSelect ops && Region.free md ops listed i && (Region.ready md ops listed).contains i)=true:=by kernel_rfl) (hQ:∀c a w,Q (.panic c) (a.put d_ v) w→Q (.panic c) a w:=by exact fun _ _ _ h=>h):wpAnyL P md ops Q S late (fuel+1) listed a w:=by
 subst hp
 simp only[Bool.and_eq_true] at hs
 obtain⟨⟨s1,s2⟩,s3⟩:=hs
 exact zl7 hi hl (Region.noSelect_spec s1) hQ fuel listed a w (Region.free_spec hi s2) (by simpa using s3) (.inl ⟨hw,fun w _=>hy w⟩) h
def lateOK2 (md:Region.Mode) (ops:Array Oper) (late:Nat→Bool) (listed:Array Bool) (i:Nat):Bool:=
 let D:=desc md ops i
 (List.range ops.size).all (fun j=>!late j || D.contains j || listed.getD j true) &&
 D.all fun x=>(listed.getD x true == false) && (match ops[x]? with
  |some o=>o.after.any (fun e=>Region.binds md e && (e.on == i || D.contains e.on))
  |none=>false)
theorem zl8 {i:Nat} (h:lateOK2 md ops late listed i=true):∃D,(∀j oj,ops[j]?=some oj→late j=true→listed.getD j true=false→j∈D)∧Waits md ops i D∧∀x∈D,listed.getD x true=false:=by
 simp only[lateOK2,Bool.and_eq_true,List.all_eq_true,List.mem_range] at h
 refine⟨desc md ops i,fun j oj hj hl hu=>?_,fun x hx=>?_,fun x hx=>?_⟩
 · have h1:=h.1 j (Array.getElem?_eq_some_iff.1 hj).1
   rw[hl,hu] at h1
   simpa using h1
 · have h1:=(h.2 x hx).2
   cases ho:ops[x]? with
   |none=>rw[ho] at h1;cases h1
   | some o =>
     rw[ho] at h1
     obtain⟨e,he,hb⟩:=Array.any_eq_true'.1 h1
     simp only[Bool.and_eq_true,Bool.or_eq_true,beq_iff_eq,List.contains_eq_mem,decide_eq_true_eq] at hb
     exact⟨o,rfl,e,he,hb⟩
 · simpa using (h.2 x hx).1
theorem zl9 {i:Nat} (hi:ops[i]?=some oi) (hsel:∀(j:Nat) (o:Oper) cs b,ops[j]?=some o→o.op≠.select cs b) (hQ:∀c a w,Q (.panic c) (a.put oi.dst v) w→Q (.panic c) a w) (hD2:Waits md ops i D):
 ∀ (fuel : Nat) (listed : Array Bool) (a : Act) (w : World), (∀ j oj, ops[j]? = some oj → late j = true → listed.getD j true = false → j ∈ D) → (∀ x ∈ D, listed.getD x true = false) →
   (∀j oj,ops[j]?=some oj→j≠i→listed.getD j true=false→(∀e∈oj.after,Region.binds md e=true→e.on≠i)→oi.apart ops oj=true)→
   i∈Region.ready md ops listed→YieldsIf P ops S oi v a→S w→
   wpAnyL P md ops Q S late fuel (listed.setIfInBounds i true) (a.put oi.dst v) w→wpAnyL P md ops Q S late (fuel+1) listed a w:=by
 intro fuel
 induction fuel with
 | zero =>
   intro listed a w _ _ _ hr hy hS H
   refine⟨fun h=>(by rw[h] at hr;cases hr),fun j hj=>?_⟩
   by_cases hji:j=i
   · subst hji;exact hy.wpOp hi hS ⟨fun _=>hS,H⟩
   · have:=ready_mono hj hji
     rw[H.1] at this
     cases this
 | succ fuel ih =>
   intro listed a w hD1 hDl hfree hr hy hS H
   refine⟨fun h=>(by rw[h] at hr;cases hr),fun j hj=>?_⟩
   by_cases hji:j=i
   · subst hji;exact hy.wpOp hi hS ⟨fun _=>hS,H⟩
   · have h1:=H.2 j (ready_mono hj hji)
     obtain⟨hjun,oj,hoj,hall⟩:=mem_ready.1 hj
     have hnot:∀e∈oj.after,Region.binds md e=true→e.on≠i:=fun e he hb heq=>by
      have h1:=hall e he hb
      have h0:=(mem_ready.1 hr).1
      rw[heq] at h1
      rcases Nat.lt_or_ge i listed.size with h'|h'
      · simp[h'] at h0 h1;rw[h0] at h1;cases h1
      · simp[Array.getElem?_eq_none h'] at h1
     have hjD:j∉D:=fun hjD=>by
      obtain⟨o,ho,e,he,hb,hor⟩:=hD2 j hjD
      obtain rfl:o=oj:=by rw[hoj] at ho;exact(Option.some.inj ho).symm
      rcases hor with heq|hin
      · exact hnot e he hb heq
      · have h1:=hall e he hb
        have h0:=hDl _ hin
        rcases Nat.lt_or_ge e.on listed.size with h'|h'
        · simp[h'] at h0 h1;rw[h0] at h1;cases h1
        · simp[Array.getElem?_eq_none h'] at h1
     have hjl:late j=false:=by
      cases h:late j with
      |false=>rfl
      |true=>exact absurd (hD1 j oj hoj h hjun) hjD
     have hDl':∀x∈D,(listed.setIfInBounds j true).getD x true=false:=fun x hx=>by
      have hne:j≠x:=by rintro rfl;exact hjD hx
      rw[getD_set_ne true hne];exact hDl x hx
     have hD1':∀k ok,ops[k]?=some ok→late k=true→(listed.setIfInBounds j true).getD k true=false→k∈D:=fun k ok hk hlk hun=>by
      refine hD1 k ok hk hlk ?_
      by_cases hjk:j=k
      · subst hjk;exact hjun
      · rw[getD_set_ne true hjk] at hun;exact hun
     have h2:=wpOp_putIf hoj (hfree j oj hoj hji hjun hnot) (fun cs b=>hsel i oi cs b hi) (fun cs b=>hsel j oj cs b hoj) hQ hy h1
     have hfree':∀k ok,ops[k]?=some ok→k≠i→(listed.setIfInBounds j true).getD k true=false→
      (∀e∈ok.after,Region.binds md e=true→e.on≠i)→oi.apart ops ok=true:=fun k ok hk hki hun hno=>by
      refine hfree k ok hk hki ?_ hno
      by_cases hjk:j=k
      · subst hjk;exact hjun
      · rw[getD_set_ne true hjk] at hun;exact hun
     refine wpOp_mono (fun a' w' h3=>⟨h3.2.1,ih (listed.setIfInBounds j true) a' w' hD1' hDl' hfree' (ready_mono hr (Ne.symm hji)) h3.1 (h3.2.1 hjl) ?_⟩) h2
     rw[Array.setIfInBounds_comm _ _ hji]
     exact h3.2.2
theorem tkU (i:Nat) {ty_:TypeId} {fuel:Nat} (hS:S w) (h:wpAnyL P md ops Q S late fuel (listed.setIfInBounds i true) a' w) (hi:ops[i]?=some (⟨d_,op_,ty_,ps_,af_,gd_⟩:Oper):=by rfl) (hy:∀w,S w→(execOp a.eval (⟨d_,op_,ty_,ps_,af_,gd_⟩:Oper)).run P w=.ok (.value v) w:=by(intro w_ hS_;first|(go_simp;done)|(go_simp;with_reducible rfl))) (hp:a.put d_ v=a':=by(first|(simp only[Act.put,zs1,zs2,zs3];done)|(simp only[Act.put,zs1,zs2,zs3];exact rfl)|exact rfl)) (hw:Region.wanted (⟨d_,op_,ty_,ps_,af_,gd_⟩:Oper) (yielded ops a.tmps)=true:=by rfl) (hs:(Region.noSelect ops && Region.free md ops listed i && (Region.ready md ops listed).contains i && lateOK2 md ops late listed i)=true:=by kernel_rfl) (hQ:∀c a w,Q (.panic c) (a.put d_ v) w→Q (.panic c) a w:=by exact fun _ _ _ h=>h):wpAnyL P md ops Q S late (fuel+1) listed a w:=by
 subst hp
 simp only[Bool.and_eq_true] at hs
 obtain⟨⟨⟨s1,s2⟩,s3⟩,s4⟩:=hs
 obtain⟨D,d1,d2,d3⟩:=zl8 s4
 exact zl9 hi (Region.noSelect_spec s1) hQ d2 fuel listed a w d1 d3 (Region.free_spec hi s2) (by simpa using s3) (.inl ⟨hw,hy⟩) hS h
end
end
end Go.H
