import Derived.Test.YtcmicdcikechkaaGreatPlays20
import Derived.Test.YtcmicdcikechkaaGreatPlays22
set_option linter.all false
set_option autoImplicit true
set_option relaxedAutoImplicit true
namespace Go.H
section
theorem zgd:∀{l:List KV},getL k l=none→delL k l=l
 |[],_=>rfl
 | y :: l, h => by
   simp only[getL] at h
   simp only[delL]
   split at h
   · cases h
   · rename_i e
     rw[if_neg e,zgd h]
theorem zge (k:List UInt8):∀l:List KV,(delL k l).Sublist l
 |[]=>List.Sublist.refl _
 | y :: l => by
   simp only[delL]
   split
   · exact List.sublist_cons_self _ _
   · exact(zge k l).cons_cons _
theorem zgf (h:Sorted l):Sorted (delL k l):=h.sublist (zge k l)
theorem zgg:∀{l:List KV},getL k l≠none→(delL k l).length+1=l.length
 |[],h=>by simp[getL] at h
 | y :: l, h => by
   simp only[getL] at h
   simp only[delL]
   split at h
   · rename_i e;rw[if_pos e];rfl
   · rename_i e;rw[if_neg e];have:=zgg h;simp;omega
theorem zgh (hs:Sorted l) (h:getL k l≠none):(findL k l).1<l.length∧delL k l=l.take (findL k l).1++l.drop ((findL k l).1+1):=by
 obtain⟨A,B,rfl,h1,h2,⟨e,y,R,rfl,hy,hR⟩|⟨e,hB⟩⟩:=z8a k hs
 · rw[h1]
   refine⟨by simp,?_⟩
   rw[z6i h2,z6p hy]
   simp[List.take_append,List.drop_append]
 · rw[z6l h2,z6m hB] at h
   exact absurd rfl h
theorem zgi (h:fs.length=l.length+1) (hs:Sorted (inter l fs)) (hg:getL k (inter l fs)≠none):
 ∃h1:(findL k l).1<fs.length,Sorted fs[(findL k l).1]∧
 if (findL k l).2 then(findL k l).1<l.length∧∀f x,f++[x]=fs[(findL k l).1]→inter (l.set (findL k l).1 x) (fs.set (findL k l).1 f)=delL k (inter l fs)
 else getL k fs[(findL k l).1]≠none∧∀f,f=delL k fs[(findL k l).1]→inter l (fs.set (findL k l).1 f)=delL k (inter l fs):=by
 obtain⟨A,B,f1,f,f2,rfl,rfl,hf1,hf2,h1,he,h2,hh⟩:=z89 k h hs
 have hget:(f1++f::f2)[A.length]?=some f:=by rw[←hf1];simp
 obtain⟨hlt,hge⟩:=List.getElem?_eq_some_iff.1 hget
 rcases hh with⟨e,y,R,f',f2',rfl,rfl,hy,hL,hR⟩|⟨e,hA,hB⟩
 all_goals
  rw[e]
  simp only[h1]
  refine⟨hlt,?_,?_⟩
 · rw[hge]
   rw[he] at hs
   exact(List.pairwise_append.1 (List.pairwise_append.1 hs).2.1).1
 · simp only[if_true]
   refine⟨by simp,fun g x hx=>?_⟩
   rw[hge] at hx
   have e1:(A++y::R).set A.length x=A++x::R:=by rw[List.set_append_right _ _ (Nat.le_refl _)];simp
   have e2:(f1++f::f'::f2').set A.length g=f1++g::f'::f2':=by rw[←hf1,List.set_append_right _ _ (Nat.le_refl _)];simp
   rw[he,e1,e2,show interT (y::R) (f'::f2')=y::(f'++interT R f2') from rfl,←List.append_assoc,z6i hL,z6p hy,z6u _ _ _ hf1,show interT (x::R) (f'::f2')=x::(f'++interT R f2') from rfl,←hx]
   simp
 · rw[hge]
   rw[he] at hs
   exact(List.pairwise_append.1 (List.pairwise_append.1 hs).2.1).1
 · simp only[Bool.false_eq_true,if_false]
   rw[hge]
   refine⟨?_,?_⟩
   · rw[he,z6l hA,z6n hB] at hg
     exact hg
   · rintro g rfl
     have e2:(f1++f::f2).set A.length (delL k f)=f1++delL k f::f2:=by rw[←hf1,List.set_append_right _ _ (Nat.le_refl _)];simp
     rw[he,e2,z6u _ _ _ hf1,z6i hA,z6k hB]
theorem zgj (h:fs.length=l.length+1) (hf:f++[x]=fs[l.length]'(by omega)):inter l (fs.set l.length f)++[x]=inter l fs:=by
 have hsp:fs=fs.take l.length++[fs[l.length]'(by omega)]:=by
  have:=List.take_append_getElem (l:=fs) (i:=l.length) (by omega)
  rw[this,List.take_of_length_le (by omega)]
 have hl:(fs.take l.length).length=l.length:=by rw[List.length_take];omega
 have e1:fs.set l.length f=fs.take l.length++[f]:=by
  have h1:(fs.take l.length++[fs[l.length]'(by omega)]).set l.length f=fs.take l.length++[f]:=by
   rw[List.set_append_right _ _ (by omega),hl];simp
  rw[←hsp] at h1;exact h1
 have a1:=z6u [] f [] (l1:=l) (f1:=fs.take l.length) hl
 have a2:=z6u [] (fs[l.length]'(by omega)) [] (l1:=l) (f1:=fs.take l.length) hl
 rw[←hsp] at a2
 simp only[List.append_nil,interT] at a1 a2
 rw[e1,a1,a2,←hf]
 simp
theorem zgk {α:Type} {l:List α} {a:Nat} (h:a+1<l.length):l=l.take a++l[a]::l[a+1]::l.drop (a+2):=by
 rw[←List.drop_eq_getElem_cons,←List.drop_eq_getElem_cons,List.take_append_drop]
theorem zgl {α:Type} {l:List α} {a:Nat} (h:a<l.length):l=l.take a++l[a]::l.drop (a+1):=by
 rw[←List.drop_eq_getElem_cons,List.take_append_drop]
theorem zgm {a:Nat} (h:fs.length=l.length+1) (ha:a<l.length):inter l fs=interH (l.take a) (fs.take a)++((fs[a]'(by omega)++l[a]::fs[a+1]'(by omega))++interT (l.drop (a+1)) (fs.drop (a+2))):=by
 have h1:=zgk (l:=fs) (a:=a) (by omega)
 have h2:=zgl ha
 have h3:=z6u (l[a]::l.drop (a+1)) (fs[a]'(by omega)) (fs[a+1]'(by omega)::fs.drop (a+2)) (l1:=l.take a) (f1:=fs.take a) (by simp;omega)
 rw[←h1,←h2] at h3
 rw[h3]
 simp[interT]
theorem zgn {a:Nat} (h:fs.length=l.length+1) (ha:a<l.length) (hF:F=fs[a]'(by omega)++l[a]::fs[a+1]'(by omega)):
 inter (l.take a++l.drop (a+1)) (fs.take a++F::fs.drop (a+2))=inter l fs:=by
 rw[zgm h ha,z6u _ _ _ (by simp;omega),←hF]
theorem zgo {a:Nat} (h:fs.length=l.length+1) (ha:a<l.length) (hF:A++y::B=fs[a]'(by omega)++l[a]::fs[a+1]'(by omega)):
 inter (l.set a y) ((fs.set a A).set (a+1) B)=inter l fs:=by
 have h1:((fs.set a A).set (a+1) B).length=(l.set a y).length+1:=by simp;omega
 rw[zgm h1 (by simpa using ha),zgm h ha]
 have e1:((fs.set a A).set (a+1) B)[a]'(by simp;omega)=A:=by simp[List.getElem_set]
 have e2:((fs.set a A).set (a+1) B)[a+1]'(by simp;omega)=B:=by simp[List.getElem_set]
 have e3:(l.set a y)[a]'(by simpa using ha)=y:=by simp
 have e4:((fs.set a A).set (a+1) B).take a=fs.take a:=by rw[List.take_set_of_le (by omega),List.take_set_of_le (Nat.le_refl _)]
 have e5:((fs.set a A).set (a+1) B).drop (a+2)=fs.drop (a+2):=by rw[List.drop_set_of_lt (by omega),List.drop_set_of_lt (by omega)]
 have e6:(l.set a y).take a=l.take a:=by rw[List.take_set_of_le (Nat.le_refl _)]
 have e7:(l.set a y).drop (a+1)=l.drop (a+1):=by rw[List.drop_set_of_lt (by omega)]
 rw[e1,e2,e3,e4,e5,e6,e7,hF]
theorem zgp {n:Nat} (h:fs.length=l.length+1) (hn:n<l.length):inter (l.take n) (fs.take (n+1))++l[n]::inter (l.drop (n+1)) (fs.drop (n+1))=inter l fs:=by
 rw[←z6v l[n] (l.drop (n+1)) (fs.drop (n+1)) (l1:=l.take n) (f1:=fs.take (n+1)) (by simp;omega) (by intro e;have:=congrArg List.length e;simp at this;omega)]
 rw[←List.drop_eq_getElem_cons,List.take_append_drop,List.take_append_drop]
end
end Go.H
namespace Go.Proofs.YtcmicdcikechkaaGreat
open Go.RowKit Go.H
set_option maxHeartbeats 2000000
set_option maxRecDepth 100000
section
structure InnerOpen (c:Nat→Nat) (qn rn:Nat) (w:World) (pg:Nat→Option Bs) (N d n:Nat) (l:List KV) (ks:List T):Prop where
 ex:∃lv kv xs kvs,w.heap[n]?=some (.cells #[.int .i64 0,lv,kv] 103 (0,0))∧w.ownsRow 0 92 2 lv l.length xs∧ItemCells (Dt c) w xs l∧w.ownsRow 0 20 1 kv kvs.length kvs∧All2 (Rep c rn w pg N False d) ks kvs∧
  c n=qn∧(∀b,lv.ownBlock=some b→c b=qn∧b≠n)∧(∀b,kv.ownBlock=some b→c b=qn∧b≠n∧¬lv.ownBlock=some b)
variable {c c' : Nat → Nat} {qn rn : Nat} {w w' : World} {pg : Nat → Option Bs} {N d n : Nat} {l : List KV} {ks : List T}
theorem InnerOpen.fr (h:InnerOpen c qn rn w pg N d n l ks) (hf:Fr C w w') (hC:∀b,C b→c b≠qn∧c b≠rn∧c b≠0):InnerOpen c qn rn w' pg N d n l ks:=by
 obtain⟨lv,kv,xs,kvs,a1,a2,a3,a4,a5,a6,a7,a8⟩:=h
 exact⟨lv,kv,xs,kvs,hf.blk a1 (fun e=>(hC _ e).1 a6),z0m a2 hf (fun b e k=>(hC _ k).1 (a7 b e).1),a3.fr hf (fun b e k=>(hC _ k).2.2 e),z0m a4 hf (fun b e k=>(hC _ k).1 (a8 b e).1),a5.imp fun _ _ h=>Rep.fr hf (fun b k=>(hC _ k).2.1) (fun b k=>(hC _ k).2.2) h,a6,a7,a8⟩
theorem InnerOpen.lt (h:InnerOpen c qn rn w pg N d n l ks):n<w.heap.size:=by
 obtain⟨lv,kv,xs,kvs,a1,_⟩:=h
 exact(Array.getElem?_eq_some_iff.1 a1).1
theorem InnerOpen.ag (h:InnerOpen c qn rn w pg N d n l ks) (ha:Ag w.heap.size c c'):InnerOpen c' qn rn w pg N d n l ks:=by
 have hl:=h.lt
 obtain⟨lv,kv,xs,kvs,a1,a2,a3,a4,a5,a6,a7,a8⟩:=h
 exact⟨lv,kv,xs,kvs,a1,a2,a3.mono (fun b e k=>(ha b k).trans e),a4,a5.imp fun _ _ h=>Rep.ag ha h,(ha _ hl).trans a6,fun b e=>⟨(ha _ (a2.lt b e).2).trans (a7 b e).1,(a7 b e).2⟩,fun b e=>⟨(ha _ (a4.lt b e).2).trans (a8 b e).1,(a8 b e).2⟩⟩
theorem Rep.cl_own {b o:Nat}:∀{d:Nat} {t:T} {v:Value},Rep c rn w pg N X d t v→c b≠rn→cnt d (.cl b o) t=0
 |0,_,_,h,_=>h.elim
 | d + 1, .node (.page id) l ks, v, h, hb => by
   obtain⟨_,_,_,_,k⟩:=h
   have:sumN (ks.map (cnt d (.cl b o)))=0:=zb4 fun a ha=>by
    obtain⟨x,hx,rfl⟩:=List.mem_map.1 ha
    exact Rep.cl_own (k x hx).2 hb
   simp only[cnt,Nm.cnt,this];rfl
 | d + 1, .node (.mem n g o') l ks, v, h, hb => by
   obtain⟨kvs,a,e1,e2,k,_⟩:=h
   have:sumN (ks.map (cnt d (.cl b o)))=0:=zb4 fun a ha=>by
    obtain⟨x,hx,rfl⟩:=List.mem_map.1 ha
    obtain⟨v2,hv⟩:=All2.memR k hx
    exact Rep.cl_own hv hb
   have hl:=All2.length k
   simp only[cnt,Nm.cnt,this,Th.cl.injEq]
   rw[if_neg (fun e=>hb (by rw[e.1];exact e1)),if_neg]
   rintro⟨e,h1,h2⟩
   have:kvs≠[]:=by rintro rfl;simp at hl;rw[hl] at h2;simp at h2;omega
   exact hb (by rw[e];exact e2 this)
theorem All2.cl_own {b o:Nat} (h:All2 (Rep c rn w pg N X d) ks kvs) (hb:c b≠rn):sumN (ks.map (cnt d (.cl b o)))=0:=zb4 fun a ha=>by
 obtain⟨x,hx,rfl⟩:=List.mem_map.1 ha
 obtain⟨v2,hv⟩:=All2.memR h hx
 exact Rep.cl_own hv hb
theorem All2.cl0 {b o:Nat} (h:All2 (Rep c rn w pg N X d) ks kvs) (hb:w.heap.size≤b):sumN (ks.map (cnt d (.cl b o)))=0:=zb4 fun a ha=>by
 obtain⟨x,hx,rfl⟩:=List.mem_map.1 ha
 obtain⟨v2,hv⟩:=All2.memR h hx
 exact Rep.cl0 hb hv
theorem InnerOpen.close (h:InnerOpen c qn rn w pg N d n l ks) (hk:ks≠[]) (h0:qn≠0) (hr:qn≠rn):∃c' g,(∀b,c b≠qn→c' b=c b)∧Rep c' rn w pg N False (d+1) (.node (.mem n g 0) l ks) (wInner n)∧c g=qn∧g≠n∧g<w.heap.size:=by
 have hl:=h.lt
 obtain⟨lv,kv,xs,kvs,a1,a2,a3,a4,a5,a6,a7,a8⟩:=h
 have hkl:=All2.length a5
 have hk0:kvs≠[]:=by
  rintro rfl
  cases ks with
  |nil=>exact hk rfl
  |cons=>simp at hkl
 obtain⟨A,kc,rfl,hA⟩:=z0o a4
 obtain⟨g,rfl⟩:∃g,A=some ⟨g,0,none⟩:=by
  cases A with
  | none =>
    rcases a4.2 with⟨e,h0⟩|⟨g,cap,cur,e,_⟩
    · exact absurd (List.length_eq_zero_iff.1 h0) hk0
    · cases e
  | some a =>
    obtain⟨g,rfl⟩:=hA a rfl
    exact⟨g,rfl⟩
 have hg:=a8 g rfl
 have hgl:=(a4.lt g rfl).2
 have hx:∀b,c b≠qn→(if b=n∨b=g then rn else if lv.ownBlock=some b then 0 else c b)=c b:=fun b hb=>by
  rw[if_neg (fun e=>hb (by rcases e with e|e;rw[e];exact a6;rw[e];exact hg.1)),if_neg (fun e=>hb (a7 b e).1)]
 obtain⟨_,_,hek,hkc1,hkc2⟩:=(Row.ofOwn a4 (F:=fun _=>True) (fun _ _=>trivial)).form
 injection hek with _ _ hek
 subst hek
 refine⟨fun b=>if b=n∨b=g then rn else if lv.ownBlock=some b then 0 else c b,g,hx,z8q a1 (ItemsAt.ofCells (Row.ofOwn a2 (fun b e=>?_)) (a3.mono (fun b e _=>?_))) (by simp) (by simp) hk0 hkc1 hkc2 (fun j u hj=>by have:=a4.cells (g:=g) rfl j u hj;rw[add0] at this;rwa [Nat.zero_add]) (a5.imp fun _ _ h=>Rep.cc (fun b e=>by rw[hx b (by rw[e];exact fun e=>hr e.symm)];exact e) (fun b e=>by rw[hx b (by rw[e];exact fun e=>h0 e.symm)];exact e) h) (z8o a4 rfl),hg.1,hg.2.1,hgl⟩
 · show(if b=n∨b=g then rn else if lv.ownBlock=some b then 0 else c b)=0
   rw[if_neg (fun k=>by rcases k with k|k;exact(a7 b e).2 k;exact hg.2.2 (by rw[←k];exact e)),if_pos e]
 · show(if b=n∨b=g then rn else if lv.ownBlock=some b then 0 else c b)=0
   rw[hx b (by rw[show c b=0 from e];exact fun e=>h0 e.symm)];exact e
structure AccL (n0 d m:Nat) (ks ks':List T) (gone gone':List Nat):Prop where
 pg:∀id,sumN (ks'.map (cnt d (.pg id)))+gone'.count id=sumN (ks.map (cnt d (.pg id)))+gone.count id
 cl:∀b o,sumN (ks'.map (cnt d (.cl b o)))≤if b<n0 then sumN (ks.map (cnt d (.cl b o))) else 1
 dirty:sumN (ks'.map (dirtyN d))≤sumN (ks.map (dirtyN d))+m
theorem AccL.trans {n0 n1 m m':Nat} (h:AccL n0 d m ks ks2 g1 g2) (k:AccL n1 d m' ks2 ks3 g2 g3) (hn:n0≤n1):AccL n0 d (m+m') ks ks3 g1 g3:=by
 refine⟨fun id=>(k.pg id).trans (h.pg id),fun b o=>?_,by have:=h.dirty;have:=k.dirty;omega⟩
 have h1:=h.cl b o
 have h2:=k.cl b o
 split at h1<;>split at h2<;>split<;>omega
theorem AccL.refl {n0:Nat} (hz:∀b o,n0≤b→sumN (ks.map (cnt d (.cl b o)))=0):AccL n0 d 0 ks ks g g:=⟨fun _=>rfl,fun b o=>by split;exact Nat.le_refl _;rw[hz b o (by omega)];omega,Nat.le_refl _⟩
theorem AccL.le {n0 m m':Nat} (h:AccL n0 d m ks ks' g g') (hm:m≤m'):AccL n0 d m' ks ks' g g':=⟨h.pg,h.cl,Nat.le_trans h.dirty (by omega)⟩
theorem AccL.set {n0 i:Nat} (hi:i<ks.length) (h:Acc n0 d ks[i] [ta] g g') (hz:∀b o,n0≤b→sumN (ks.map (cnt d (.cl b o)))=0):AccL n0 d (2*d) ks (ks.set i ta) g g':=by
 refine⟨fun id=>?_,fun b o=>?_,?_⟩
 · have h1:=h.pg id
   have h2:=zb9 (ta:=ta) hi (cnt d (.pg id))
   simp only[List.map_cons,List.map_nil,sumN,Nat.add_zero] at h1
   omega
 · have h1:=h.cl b o
   have h2:=zb9 (ta:=ta) hi (cnt d (.cl b o))
   have h3:=hz b o
   have h5:=z73 (List.mem_map_of_mem (f:=cnt d (.cl b o)) (List.getElem_mem hi))
   simp only[List.map_cons,List.map_nil,sumN,Nat.add_zero] at h1
   split at h1<;>split<;>first|omega|(have:=h3 (by omega);omega)
 · have h1:=h.dirty
   have h2:=zb9 (ta:=ta) hi (dirtyN d)
   simp only[List.map_cons,List.map_nil,sumN,Nat.add_zero] at h1
   omega
theorem AccL.close {n0 g m:Nat} (h:AccL n0 d m t.ks ks' (gone++goneOf t) gone') (hm:m≤2*d+1) (hn:n0≤n) (hg:n0≤g) (hng:g≠n) (h1:∀o,sumN (ks'.map (cnt d (.cl n o)))=0) (h2:∀o,sumN (ks'.map (cnt d (.cl g o)))=0) (hd:sumN (t.ks.map (dirtyN d))≤dirtyN (d+1) t):Acc n0 (d+1) t [.node (.mem n g 0) l' ks'] gone gone':=by
 refine⟨fun id=>?_,fun b o=>?_,?_⟩
 · have h1:=h.pg id
   rw[List.count_append] at h1
   simp only[List.map_cons,List.map_nil,sumN,Nat.add_zero]
   rw[zbc,zb5 d id t]
   omega
 · have h3:=h.cl b o
   have h4:=zb6 d b o t
   simp only[List.map_cons,List.map_nil,sumN,Nat.add_zero]
   rw[zb7]
   by_cases e1:b=n
   · subst e1
     rw[h1 o,if_neg (c:=b=g∧_) (fun e=>hng e.1.symm),if_neg (c:=b<n0) (by omega)]
     split<;>omega
   · by_cases e2:b=g
     · subst e2
       rw[h2 o,if_neg (c:=b=n∧_) (fun e=>e1 e.1),if_neg (c:=b<n0) (by omega)]
       split<;>omega
     · rw[if_neg (fun e=>e1 e.1),if_neg (fun e=>e2 e.1)]
       split at h3<;>split<;>omega
 · have h1:=h.dirty
   simp only[List.map_cons,List.map_nil,sumN,Nat.add_zero,dirtyN]
   omega
end
section
theorem zgq {n c i:Nat} (hl:Row F w (.slice A n c) n 2 xs) (hone:∀u∈xs,u.oneCell'=true) (hi:i<n) (hn:n≤100):
 Calls Tryz.prog 84 #[.slice A n c,.int .i64 i] w fun e w'=>∃v',e=.returned v'∧Fr C0 w w'∧w'.ownsRow w.heap.size 92 2 v' (n-1) (xs.take (i*2)++xs.drop ((i+1)*2)):=by
 obtain⟨_,_,he,hnc,hcm⟩:=hl.form
 injection he with e1 e2 e3
 subst e1;subst e3;clear e2
 unfold maxLen at hcm
 have HL:=zhd (hl.mono (F':=fun b=>b<w.heap.size) (fun b _ h=>h));clear hl
 have HO:=zhd hone;clear hone
 have hic:i≤c:=by omega
 have hi0:0≤(i:Int)+1:=by omega
 have hi1:(i:Int)+1≤(n:Int):=by omega
 have hwr:IntKind.i64.wrap ((i:Int)+1)=((i+1:Nat):Int):=by rw[z0t _ (by omega) (by omega)];rfl
 go_enter Tryz.func84,Tryz.ntmps84
 go_wp2_with fail
 refine z1r (Fr C0 w) [] (by kernel_rfl) ?_
 have hSw0:(Fr C0 w) _:=(Fr.refl C0 w).drew
 refine tk 0 hSw0 ?_
 refine tk 1 hSw0 ?_
 refine tk 2 hSw0 ?_
 refine tk 4 hSw0 ?_
 refine tk 5 hSw0 ?_
 refine tk 6 hSw0 ?_
 refine tk 7 hSw0 ?_
 refine one_ 3 rfl (fun K hK=>?_)
 refine z0k z2l _ _ rfl (v:=.slice none 0 0) (xv:=.slice A i c) rfl rfl (B:=w.heap.size) (World.ownsRow_nil _ _ _ _) ((HL.out.take (Nat.le_of_lt hi)).fr0 (by assumption)) (z0p HO.out) (by unfold maxLen;omega) (by omega) (by simp) ?_
 intro v2 w2 o2 f2 k2 nil2
 have G2:=zhd ((Fr.refl C0 w).drew.trans f2 (fun b _ h=>by simp[Value.ownBlock] at h))
 have O2:=zhd o2;clear o2
 have hB2:=G2.out.size
 refine hK.out _ _ ?kS1 (fun hSw1=>?kR1)
 case kS1=>exact G2.out
 clear hK K
 try simp only[Act.put,zs1,zs2,zs3]
 refine one_ 8 rfl (fun K hK=>?_)
 refine z0k z2l _ _ rfl (v:=v2) (xv:=.slice (if c=i+1 then A else A.map (·.add ((i+1)*2))) (n-(i+1)) (c-(i+1))) rfl rfl O2.out ((HL.out.drop (i:=i+1) hi).fr0 G2.out) (z0q HO.out) (by unfold maxLen;omega) (by omega) (by omega) ?_
 intro v3 w3 o3 f3 k3 nil3
 have G3:=G2.out.transO f3 (fun b e=>by have:=(O2.out.lt _ e).1;omega)
 refine hK.out _ _ ?kS2 (fun hSw2=>?kR2)
 case kS2=>exact G3
 clear hK K
 try simp only[Act.put,zs1,zs2,zs3]
 refine tk 9 hSw2 ?_
 refine z1q (by kernel_rfl) ?_ _
 go_wp2
 all_goals
  go_ret
  refine⟨v3,rfl,G3,?_⟩
  have o4:=z0n (B':=w.heap.size) o3 (fun b e=>by have:=(o3.lt _ e).1;omega)
  rw[show n-1=0+i+(n-(i+1)) by omega]
  simpa using o4
theorem zgr {n c i:Nat} (hl:Row F w (.slice A n c) n 1 xs) (hone:∀u∈xs,u.oneCell'=true) (hi:i<n) (hn:n≤100):
 Calls Tryz.prog 109 #[.slice A n c,.int .i64 i] w fun e w'=>∃v',e=.returned v'∧Fr C0 w w'∧w'.ownsRow w.heap.size 20 1 v' (n-1) (xs.take i++xs.drop (i+1)):=by
 obtain⟨_,_,he,hnc,hcm⟩:=hl.form
 injection he with e1 e2 e3
 subst e1;subst e3;clear e2
 unfold maxLen at hcm
 have HL:=zhd (hl.mono (F':=fun b=>b<w.heap.size) (fun b _ h=>h));clear hl
 have HO:=zhd hone;clear hone
 have hic:i≤c:=by omega
 have hi0:0≤(i:Int)+1:=by omega
 have hi1:(i:Int)+1≤(n:Int):=by omega
 have hwr:IntKind.i64.wrap ((i:Int)+1)=((i+1:Nat):Int):=by rw[z0t _ (by omega) (by omega)];rfl
 go_enter Tryz.func109,Tryz.ntmps109
 go_wp2_with fail
 refine z1r (Fr C0 w) [] (by kernel_rfl) ?_
 have hSw0:(Fr C0 w) _:=(Fr.refl C0 w).drew
 refine tk 0 hSw0 ?_
 refine tk 1 hSw0 ?_
 refine tk 2 hSw0 ?_
 refine tk 4 hSw0 ?_
 refine tk 5 hSw0 ?_
 refine tk 6 hSw0 ?_
 refine tk 7 hSw0 ?_
 refine one_ 3 rfl (fun K hK=>?_)
 refine z0k z2m _ _ rfl (v:=.slice none 0 0) (xv:=.slice A i c) rfl rfl (B:=w.heap.size) (World.ownsRow_nil _ _ _ _) ((HL.out.take1 (Nat.le_of_lt hi)).fr0 (by assumption)) (z0p HO.out) (by unfold maxLen;omega) (by omega) (by simp) ?_
 intro v2 w2 o2 f2 k2 nil2
 have G2:=zhd ((Fr.refl C0 w).drew.trans f2 (fun b _ h=>by simp[Value.ownBlock] at h))
 have O2:=zhd o2;clear o2
 have hB2:=G2.out.size
 refine hK.out _ _ ?kS3 (fun hSw1=>?kR3)
 case kS3=>exact G2.out
 clear hK K
 try simp only[Act.put,zs1,zs2,zs3]
 refine one_ 8 rfl (fun K hK=>?_)
 refine z0k z2m _ _ rfl (v:=v2) (xv:=.slice (if c=i+1 then A else A.map (fun x=>⟨x.block,x.off+(i+1),none⟩)) (n-(i+1)) (c-(i+1))) rfl rfl O2.out (by have:=(HL.out.drop1 (i:=i+1) hi).fr0 G2.out;simpa [Addr.add] using this) (z0q HO.out) (by unfold maxLen;omega) (by omega) (by omega) ?_
 intro v3 w3 o3 f3 k3 nil3
 have G3:=G2.out.transO f3 (fun b e=>by have:=(O2.out.lt _ e).1;omega)
 refine hK.out _ _ ?kS4 (fun hSw2=>?kR4)
 case kS4=>exact G3
 clear hK K
 try simp only[Act.put,zs1,zs2,zs3]
 refine tk 9 hSw2 ?_
 refine z1q (by kernel_rfl) ?_ _
 go_wp2
 all_goals
  go_ret
  refine⟨v3,rfl,G3,?_⟩
  have o4:=z0n (B':=w.heap.size) o3 (fun b e=>by have:=(o3.lt _ e).1;omega)
  rw[show n-1=0+i+(n-(i+1)) by omega]
  simpa using o4
theorem zgs (w:World):(binOp .eql 101 (.slice none 0 0) (.slice none 0 0)).run Tryz.prog w=.ok (.bool true) w:=by kernel_rfl
theorem zgt (a:Addr) (n c:Nat) (w:World):(binOp .eql 101 (.slice (some a) n c) (.slice none 0 0)).run Tryz.prog w=.ok (.bool false) w:=by kernel_rfl
theorem zgu (lv:Value) (w:World) (hl:∃A n c,lv=.slice A n c):Calls Tryz.prog 121 #[lv,.slice none 0 0] w fun e w'=>e=.returned (wLeaf w.heap.size)∧w.alloc (.cells #[.int .i64 0,lv] 96)=w':=by
 obtain⟨A,n,c,rfl⟩:=hl
 have he:=zgs w
 go_enter Tryz.func121,Tryz.ntmps121
 go_wp2
 go_ret
 exact⟨rfl,rfl⟩
theorem zgv (lv kv:Value) (w:World) (hl:∃A n c,lv=.slice A n c) (hk:∃a n c,kv=.slice (some a) n c):Calls Tryz.prog 121 #[lv,kv] w fun e w'=>e=.returned (wInner w.heap.size)∧w.alloc (.cells #[.int .i64 0,lv,kv] 103)=w':=by
 obtain⟨A,n,c,rfl⟩:=hl
 obtain⟨a,n2,c2,rfl⟩:=hk
 have he:=zgt a n2 c2 w
 go_enter Tryz.func121,Tryz.ntmps121
 go_wp2
 go_ret
 exact⟨rfl,rfl⟩
end
end Go.Proofs.YtcmicdcikechkaaGreat
