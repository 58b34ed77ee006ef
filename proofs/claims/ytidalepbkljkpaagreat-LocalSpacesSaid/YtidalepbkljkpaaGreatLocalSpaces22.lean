import Derived.Test.YtidalepbkljkpaaGreatLocalSpaces21
set_option linter.all false
namespace Go.Proofs.YtidalepbkljkpaaGreat
open Go.RowKit Go.H
set_option maxHeartbeats 2000000
set_option maxRecDepth 100000
section
theorem zb2 {l:List Nat} (h:∀a∈l,a=0):sumN l=0:=by
 induction l with
 |nil=>rfl
 |cons a l ih=>simp only[sumN];rw[h a (by simp),ih (fun b hb=>h b (List.mem_cons_of_mem _ hb))]
theorem All2.memR {α β:Type} {R:α→β→Prop}:∀{l:List α} {m:List β} {a:α},All2 R l m→a∈l→∃b,R a b
 |_,_,_,.nil,h=>by simp at h
 | _, _, _, .cons h1 h2, h => by
   rcases List.mem_cons.1 h with rfl|h
   · exact⟨_,h1⟩
   · exact All2.memR h2 h
theorem Rep.cl0 {c:Nat→Nat} {rn:Nat} {w:World} {pg:Nat→Option Bs} {N:Nat} {X:Prop} {b o:Nat} (hb:w.heap.size≤b):∀{d:Nat} {t:T} {v:Value},Rep c rn w pg N X d t v→cnt d (.cl b o) t=0
 |0,_,_,h=>h.elim
 | d + 1, .node (.page id) l ks, v, h => by
   obtain⟨_,_,_,_,k⟩:=h
   have:sumN (ks.map (cnt d (.cl b o)))=0:=zb2 fun a ha=>by
    obtain⟨x,hx,rfl⟩:=List.mem_map.1 ha
    exact Rep.cl0 hb (k x hx).2
   simp only[cnt,Nm.cnt,this];rfl
 | d + 1, .node (.mem n g o') l ks, v, h => by
   obtain⟨kvs,a,_,_,k,_⟩:=h
   have:sumN (ks.map (cnt d (.cl b o)))=0:=zb2 fun a ha=>by
    obtain⟨x,hx,rfl⟩:=List.mem_map.1 ha
    obtain⟨v2,hv⟩:=All2.memR k hx
    exact Rep.cl0 hb hv
   have hl:=All2.length k
   have hn:=a.lt.1
   simp only[cnt,Nm.cnt,this,Th.cl.injEq]
   rw[if_neg (by omega),if_neg]
   rintro⟨e,h1,h2⟩
   have:kvs≠[]:=by rintro rfl;simp at hl;rw[hl] at h2;simp at h2;omega
   have:=a.lt.2 this
   omega
theorem zb3 (d id:Nat) (t:T):cnt (d+1) (.pg id) t=(goneOf t).count id+sumN (t.ks.map (cnt d (.pg id))):=by
 obtain⟨nm,l,ks⟩:=t
 rw[zav]
 cases nm with
 |page i=>simp only[cnt,Nm.cnt,T.nm,T.ks,Th.pg.injEq];by_cases h:id=i<;>simp[h];intro e;exact absurd e.symm h
 |mem a g o=>simp[cnt,Nm.cnt,T.nm,T.ks]
theorem zb4 (d b o:Nat) (t:T):sumN (t.ks.map (cnt d (.cl b o)))≤cnt (d+1) (.cl b o) t:=by
 obtain⟨nm,l,ks⟩:=t
 simp only[cnt,T.ks];omega
theorem zb5 (d b j n g o:Nat) (l:List KV) (ks:List T):cnt (d+1) (.cl b j) (.node (.mem n g o) l ks)=(if b=n∧j=0 then 1 else 0)+(if b=g∧o≤j∧j<o+ks.length then 1 else 0)+sumN (ks.map (cnt d (.cl b j))):=by
 simp only[cnt,Nm.cnt,Th.cl.injEq]
theorem zb6 {c:Nat→Nat} {rn:Nat} {w:World} {pg:Nat→Option Bs} {N:Nat} {X:Prop} {d:Nat} {t:T} {v:Value} (h:Rep c rn w pg N X (d+1) t v):sumN (t.ks.map (dirtyN d))≤dirtyN (d+1) t:=by
 obtain⟨nm,l,ks⟩:=t
 cases nm with
 | page id =>
   obtain⟨_,_,_,_,k⟩:=h
   have:sumN (ks.map (dirtyN d))=0:=zb2 fun a ha=>by
    obtain⟨x,hx,rfl⟩:=List.mem_map.1 ha
    obtain⟨nm2,l2,k2⟩:=x
    have hp:=(k _ hx).1
    cases nm2 with
    |mem=>exact hp.elim
    |page j=>cases d<;>rfl
   simp only[T.ks,this];omega
 |mem n g o=>simp only[dirtyN,T.ks];omega
theorem zb7 {ks:List T} {i:Nat} {ta:T} (hi:i<ks.length) (f:T→Nat):sumN ((ks.set i ta).map f)+f ks[i]=sumN (ks.map f)+f ta:=by
 have:=zaq (l:=ks.map f) (i:=i) (a:=f ta) (by simpa using hi)
 rw[List.map_set];simpa using this
theorem zb8 (ks:List T) (i:Nat) (tb:T) (f:T→Nat):sumN ((ks.take i++tb::ks.drop i).map f)=sumN (ks.map f)+f tb:=by
 have:=zar (ks.map f) i (f tb)
 simpa using this
theorem zb9 (ks:List T) (i:Nat) (f:T→Nat):sumN ((ks.take i).map f)+sumN ((ks.drop i).map f)=sumN (ks.map f):=by
 rw[List.map_take,List.map_drop];exact zas _ _
theorem zba (d id n g o:Nat) (l:List KV) (ks:List T):cnt (d+1) (.pg id) (.node (.mem n g o) l ks)=sumN (ks.map (cnt d (.pg id))):=by simp[cnt,Nm.cnt]
theorem zbb {n0 d n g:Nat} {t:T} {l:List KV} {gone:List Nat} (hd:sumN (t.ks.map (dirtyN d))≤dirtyN (d+1) t) (hz:∀b o,n0≤b→sumN (t.ks.map (cnt d (.cl b o)))=0) (hn:n0≤n) (hg:n0≤g) (hng:n≠g) :
 Acc n0 (d+1) t [.node (.mem n g 0) l t.ks] gone (gone++goneOf t):=by
 refine⟨fun id=>?_,fun b o=>?_,?_⟩
 · rw[List.count_append]
   simp only[List.map_cons,List.map_nil,sumN,Nat.add_zero]
   rw[zba,zb3 d id t]
   omega
 · have h3:=hz b o
   have h4:=zb4 d b o t
   simp only[List.map_cons,List.map_nil,sumN,Nat.add_zero]
   rw[zb5]
   split<;>split<;>split<;>first|omega|(have:=h3 (by omega);omega)
 · simp only[List.map_cons,List.map_nil,sumN,Nat.add_zero,dirtyN]
   omega
theorem zbc {n0 n1 d n g i:Nat} {t ta:T} {l:List KV} {gone gone2:List Nat} (hi:i<t.ks.length) (h:Acc n1 d t.ks[i] [ta] (gone++goneOf t) gone2) (hn:n0≤n) (hg:n0≤g) (hng:n≠g) (hn1:n<n1) (hg1:g<n1) (h01:n0≤n1) (hz:∀b o,n0≤b→sumN (t.ks.map (cnt d (.cl b o)))=0) (hd:sumN (t.ks.map (dirtyN d))≤dirtyN (d+1) t) :
 Acc n0 (d+1) t [.node (.mem n g 0) l (t.ks.set i ta)] gone gone2:=by
 refine⟨fun id=>?_,fun b o=>?_,?_⟩
 · have h1:=h.pg id
   have h2:=zb7 (ta:=ta) hi (cnt d (.pg id))
   rw[List.count_append] at h1
   simp only[List.map_cons,List.map_nil,sumN,Nat.add_zero] at h1⊢
   rw[zba,zb3 d id t]
   omega
 · have h1:=h.cl b o
   have h2:=zb7 (ta:=ta) hi (cnt d (.cl b o))
   have h3:=hz b o
   have h4:=zb4 d b o t
   have h5:=z75 (List.mem_map_of_mem (f:=cnt d (.cl b o)) (List.getElem_mem hi))
   simp only[List.map_cons,List.map_nil,sumN,Nat.add_zero] at h1⊢
   rw[zb5]
   split at h1<;>split<;>split<;>split<;>first|omega|(have:=h3 (by omega);omega)
 · have h1:=h.dirty
   have h2:=zb7 (ta:=ta) hi (dirtyN d)
   simp only[List.map_cons,List.map_nil,sumN,Nat.add_zero] at h1⊢
   simp only[dirtyN]
   omega
theorem zbd {n0 n1 n2 d n g i:Nat} {t ta tb:T} {l:List KV} {gone gone2:List Nat} (hi:i<t.ks.length) (h:Acc n1 d t.ks[i] [ta,tb] (gone++goneOf t) gone2) (hn:n0≤n) (hn1:n<n1) (hg:n2≤g) (h01:n0≤n1) (h12:n1≤n2) (hz:∀b o,n0≤b→sumN (t.ks.map (cnt d (.cl b o)))=0) (hz2:∀b o,n2≤b→cnt d (.cl b o) ta=0∧cnt d (.cl b o) tb=0) (hd:sumN (t.ks.map (dirtyN d))≤dirtyN (d+1) t) :
 Acc n0 (d+1) t [.node (.mem n g 0) l ((t.ks.set i ta).take (i+1)++tb::(t.ks.set i ta).drop (i+1))] gone gone2:=by
 refine⟨fun id=>?_,fun b o=>?_,?_⟩
 · have h1:=h.pg id
   have h2:=zb7 (ta:=ta) hi (cnt d (.pg id))
   rw[List.count_append] at h1
   simp only[List.map_cons,List.map_nil,sumN,Nat.add_zero] at h1⊢
   rw[zba,zb3 d id t,zb8]
   omega
 · have h1:=h.cl b o
   have h2:=zb7 (ta:=ta) hi (cnt d (.cl b o))
   have h3:=hz b o
   have h4:=zb4 d b o t
   have h5:=z75 (List.mem_map_of_mem (f:=cnt d (.cl b o)) (List.getElem_mem hi))
   have h6:=hz2 b o
   simp only[List.map_cons,List.map_nil,sumN,Nat.add_zero] at h1⊢
   rw[zb5,zb8]
   split at h1<;>split<;>split<;>split<;>first|omega|(have:=h3 (by omega);omega)|(have:=h3 (by omega);have:=h6 (by omega);omega)
 · have h1:=h.dirty
   have h2:=zb7 (ta:=ta) hi (dirtyN d)
   simp only[List.map_cons,List.map_nil,sumN,Nat.add_zero] at h1⊢
   simp only[dirtyN]
   rw[zb8]
   omega
theorem zbe {n0 n1 n2 d na nb g i:Nat} {t ta tb:T} {la lb:List KV} {gone gone2:List Nat} (hi:i<t.ks.length) (hlen:t.ks.length=5) (h:Acc n1 d t.ks[i] [ta,tb] (gone++goneOf t) gone2) (hna:n2≤na) (hnb:n2≤nb) (hg:n2≤g) (hne:na≠nb) (hag:na≠g) (hbg:nb≠g) (h01:n0≤n1) (h12:n1≤n2) (hz:∀b o,n0≤b→sumN (t.ks.map (cnt d (.cl b o)))=0) (hz2:∀b o,n2≤b→cnt d (.cl b o) ta=0∧cnt d (.cl b o) tb=0) (hd:sumN (t.ks.map (dirtyN d))≤dirtyN (d+1) t) :
 Acc n0 (d+1) t [.node (.mem na g 0) la (((t.ks.set i ta).take (i+1)++tb::(t.ks.set i ta).drop (i+1)).take 3),.node (.mem nb g 3) lb (((t.ks.set i ta).take (i+1)++tb::(t.ks.set i ta).drop (i+1)).drop 3)] gone gone2:=by
 have hl6:((t.ks.set i ta).take (i+1)++tb::(t.ks.set i ta).drop (i+1)).length=6:=by simp;omega
 have hs0:=fun f:T→Nat=>zb8 (t.ks.set i ta) (i+1) tb f
 generalize (t.ks.set i ta).take (i+1)++tb::(t.ks.set i ta).drop (i+1)=kk at *
 refine⟨fun id=>?_,fun b o=>?_,?_⟩
 · have h1:=h.pg id
   have h2:=zb7 (ta:=ta) hi (cnt d (.pg id))
   have h7:=zb9 kk 3 (cnt d (.pg id))
   have h8:=hs0 (cnt d (.pg id))
   rw[List.count_append] at h1
   simp only[List.map_cons,List.map_nil,sumN,Nat.add_zero] at h1⊢
   rw[zba,zba,zb3 d id t]
   omega
 · have h1:=h.cl b o
   have h2:=zb7 (ta:=ta) hi (cnt d (.cl b o))
   have h3:=hz b o
   have h4:=zb4 d b o t
   have h5:=z75 (List.mem_map_of_mem (f:=cnt d (.cl b o)) (List.getElem_mem hi))
   have h6:=hz2 b o
   have h7:=zb9 kk 3 (cnt d (.cl b o))
   have h8:=hs0 (cnt d (.cl b o))
   have hl1:(kk.take 3).length=3:=by rw[List.length_take];omega
   have hl2:(kk.drop 3).length=3:=by rw[List.length_drop];omega
   simp only[List.map_cons,List.map_nil,sumN,Nat.add_zero] at h1⊢
   rw[zb5,zb5,hl1,hl2]
   have hA:∀p:Prop,[Decidable p]→(if p then 1 else 0)=1∧p∨(if p then 1 else 0)=0∧¬p:=fun p _=>by split<;>simp[*]
   have a1:=hA (b=na∧o=0)
   have a2:=hA (b=g∧0≤o∧o<0+3)
   have a3:=hA (b=nb∧o=0)
   have a4:=hA (b=g∧3≤o∧o<3+3)
   generalize (if b=na∧o=0 then 1 else 0)=A at *
   generalize (if b=g∧0≤o∧o<0+3 then 1 else 0)=B at *
   generalize (if b=nb∧o=0 then 1 else 0)=C at *
   generalize (if b=g∧3≤o∧o<3+3 then 1 else 0)=E at *
   clear hA
   by_cases hb2:n2≤b
   · have:=h3 (by omega)
     have:=h6 hb2
     rw[if_neg (by omega)]
     omega
   · split at h1<;>split<;>first|omega|(have:=h3 (by omega);omega)
 · have h1:=h.dirty
   have h2:=zb7 (ta:=ta) hi (dirtyN d)
   have h7:=zb9 kk 3 (dirtyN d)
   have h8:=hs0 (dirtyN d)
   simp only[List.map_cons,List.map_nil,sumN,Nat.add_zero] at h1⊢
   simp only[dirtyN]
   omega
end
section
def PutIH (r rn q st tp wp:Nat) (S:SSt) (D:DSt) (x:KV) (kv vv:Value) (d:Nat):Prop:=
 ∀ (m : Nat) (c : Nat → Nat) (w : World) (t : T) (v : Value) (gone : List Nat), Hd c r w tp st S D → Cl w c → WorkAt c q w wp tp gone → Rep c rn w (pgs D) D.blocks False d t v → Shape d m t → 1 ≤ m → Sorted (flat d t) → BytesAt (Dt c) w kv x.1 → BytesAt (Dt c) w vv x.2 → KVok x → gone.length + d ≤ 1000000 →
   Calls Tryz.prog 148 #[.pointer (some ⟨wp,0,none⟩),v,.agg #[kv,vv]] w (PutRes c rn q w (pgs D) D.blocks d m t x wp tp gone)
def EndU (c:Nat→Nat) (rn:Nat) (w:World) (pg:Nat→Option Bs) (N d m:Nat) (L:List KV) (n0:Nat) (t:T) (gone gone':List Nat) (va nx kv2 vv2:Value):Prop:=
 (nx = .nilIface ∧ ∃ ta, Rep c rn w pg N False d ta va ∧ Shape d m ta ∧ flat d ta = L ∧ Acc n0 d t [ta] gone gone') ∨
  (∃tx2 y2 ta tb x2,nx=.iface tx2 y2∧Rep c rn w pg N False d ta va∧Rep c rn w pg N False d tb nx∧Shape d 2 ta∧Shape d 2 tb∧BytesAt (Dt c) w kv2 x2.1∧BytesAt (Dt c) w vv2 x2.2∧KVok x2∧flat d ta++x2::flat d tb=L∧Acc n0 d t [ta,tb] gone gone')
theorem EndU.fr {C:Nat→Prop} {c:Nat→Nat} {rn:Nat} {w w':World} {pg:Nat→Option Bs} {N d m:Nat} {L:List KV} {n0:Nat} {t:T} {gone gone':List Nat} {va nx kv2 vv2:Value} (h:EndU c rn w pg N d m L n0 t gone gone' va nx kv2 vv2) (hf:Fr C w w') (h1:∀b,C b→c b≠rn) (h2:∀b,C b→c b≠0):EndU c rn w' pg N d m L n0 t gone gone' va nx kv2 vv2:=by
 rcases h with⟨e,ta,a1,a2,a3,a4⟩|⟨tx2,y2,ta,tb,x2,e,a1,a2,a3,a4,a5,a6,a7,a8,a9⟩
 · exact .inl ⟨e,ta,Rep.fr hf h1 h2 a1,a2,a3,a4⟩
 · exact .inr ⟨tx2,y2,ta,tb,x2,e,Rep.fr hf h1 h2 a1,Rep.fr hf h1 h2 a2,a3,a4,a5.fr hf (fun b hb k=>h2 _ k hb),a6.fr hf (fun b hb k=>h2 _ k hb),a7,a8,a9⟩
theorem EndU.ag {c c':Nat→Nat} {rn:Nat} {w:World} {pg:Nat→Option Bs} {N d m:Nat} {L:List KV} {n0:Nat} {t:T} {gone gone':List Nat} {va nx kv2 vv2:Value} (h:EndU c rn w pg N d m L n0 t gone gone' va nx kv2 vv2) (ha:Ag w.heap.size c c'):EndU c' rn w pg N d m L n0 t gone gone' va nx kv2 vv2:=by
 rcases h with⟨e,ta,a1,a2,a3,a4⟩|⟨tx2,y2,ta,tb,x2,e,a1,a2,a3,a4,a5,a6,a7,a8,a9⟩
 · exact .inl ⟨e,ta,Rep.ag ha a1,a2,a3,a4⟩
 · exact .inr ⟨tx2,y2,ta,tb,x2,e,Rep.ag ha a1,Rep.ag ha a2,a3,a4,a5.ag ha,a6.ag ha,a7,a8,a9⟩
theorem PutEnd.uni {c:Nat→Nat} {rn:Nat} {w:World} {pg:Nat→Option Bs} {N d m:Nat} {L:List KV} {more:Bool} {n0:Nat} {t:T} {gone gone':List Nat} {e:Ending} (h:PutEnd c rn w pg N d m L more n0 t gone gone' e) :
 ∃tx y nx kA2 kn kc2 vA2 vn vc2,e=.returned (.tuple #[.iface tx y,nx,.agg #[.slice kA2 kn kc2,.slice vA2 vn vc2],.bool more])∧EndU c rn w pg N d m L n0 t gone gone' (.iface tx y) nx (.slice kA2 kn kc2) (.slice vA2 vn vc2):=by
 rcases h with⟨rfl,h1,h2,h3,h4⟩|⟨rfl,h1,h2,h3,h4,h5,h6,h7,h8,h9⟩
 · obtain⟨tx,y,rfl⟩:=h1.iface
   exact⟨_,_,_,_,_,_,_,_,_,rfl,.inl ⟨rfl,_,h1,h2,h3,h4⟩⟩
 · obtain⟨tx,y,rfl⟩:=h1.iface
   obtain⟨tx2,y2,rfl⟩:=h2.iface
   obtain⟨a,b,rfl,-⟩:=h5.form
   obtain⟨a2,b2,rfl,-⟩:=h6.form
   exact⟨_,_,_,_,_,_,_,_,_,rfl,.inr ⟨_,_,_,_,_,rfl,h1,h2,h3,h4,h5,h6,h7,h8,h9⟩⟩
theorem All2.set {α β:Type} {R:α→β→Prop} {a:α} {b:β} (h:R a b):∀{l:List α} {m:List β} (i:Nat),All2 R l m→All2 R (l.set i a) (m.set i b)
 |_,_,i,.nil=>by simpa using All2.nil
 |_,_,0,.cons h1 h2=>.cons h h2
 |_,_,i+1,.cons h1 h2=>.cons h1 (All2.set h i h2)
theorem Rep.cc {c c':Nat→Nat} {rn:Nat} {w:World} {pg:Nat→Option Bs} {N:Nat} {X:Prop} (h1:∀b,c b=rn→c' b=rn) (h0:∀b,c b=0→c' b=0):∀{d:Nat} {t:T} {v:Value},Rep c rn w pg N X d t v→Rep c' rn w pg N X d t v
 |0,_,_,h=>h.elim
 | d + 1, .node (.page id) l ks, v, h => by
   obtain⟨a,b,e,f,k⟩:=h
   exact⟨a,b,e,f,fun x hx=>⟨(k x hx).1,Rep.cc h1 h0 (k x hx).2⟩⟩
 | d + 1, .node (.mem n g o) l ks, v, h => by
   obtain⟨kvs,a,b,e,f,p⟩:=h
   exact⟨kvs,a.mono fun b hb _=>h0 b hb,h1 _ b,fun hk=>h1 _ (e hk),f.imp fun x y hx=>Rep.cc h1 h0 hx,p⟩
theorem zbf {c0 c':Nat→Nat} {rn q q2 u d N:Nat} {w0 wf:World} {pg:Nat→Option Bs} {ks:List T} {kvs:List Value} (hk:All2 (Rep c0 rn w0 pg N False d) ks kvs) (hcl:Cl w0 c0) (hag:Ag w0.heap.size c0 c') (hu:u<w0.heap.size) (hcu:c0 u=q2) (hq0:q≠0) (hqn:q≠rn) (hq20:q2≠0) (hq2n:q2≠rn) (hf:Fr (fun b=>c0 b=q∨b=u) w0 wf):All2 (Rep c' rn wf pg N False d) ks kvs:=by
 have hc:∀b,(c0 b=q∨b=u)→c' b=q∨c' b=q2:=fun b h=>by
  by_cases hb:b<w0.heap.size
  · rcases h with h|h
    · exact .inl ((hag b hb).trans h)
    · exact .inr (by rw[hag b hb,h];exact hcu)
  · rcases h with h|h
    · exact absurd ((hcl b (by omega)).symm.trans h) (fun e=>hq0 e.symm)
    · omega
 exact hk.imp fun _ _ h=>Rep.fr hf (fun b h e=>(hc b h).elim (fun h=>hqn (h.symm.trans e)) (fun h=>hq2n (h.symm.trans e))) (fun b h e=>(hc b h).elim (fun h=>hq0 (h.symm.trans e)) (fun h=>hq20 (h.symm.trans e))) (Rep.ag hag h)
theorem fin {c cA:Nat→Nat} {rn q q2 d m N:Nat} {w wf:World} {pg:Nat→Option Bs} {t:T} {x:KV} {wp tp:Nat} {gone gone2 ns:List Nat} {e:Ending} (hq2:q2≠q) (hq20:q2≠0) (hq2n:q2≠rn) (hns:∀b∈ns,cA b=q2∧w.heap.size≤b∧b<wf.heap.size) (ag:Ag w.heap.size c cA) (cl:Cl wf cA) (wk:WorkAt cA q wf wp tp gone2) (fr:Fr (fun b=>c b=q) w wf) (hgl:gone2.length≤gone.length+d)
 (hend:∀c',(∀b,cA b=rn→c' b=rn)→(∀b,cA b=0→c' b=0)→(∀b∈ns,c' b=rn)→PutEnd c' rn wf pg N d m (putL x (flat d t)) (decide (getL x.1 (flat d t)=none)) w.heap.size t gone gone2 e):PutRes c rn q w pg N d m t x wp tp gone e wf:=by
 have hx:∀b,cA b≠q2→ownN cA ns rn b=cA b:=fun b h=>z8n (fun hm=>h (hns b hm).1)
 refine PutRes.mk fr ⟨ownN cA ns rn,gone2,z8o ag (fun b hb=>(hns b hb).2.1),z8p cl (fun b hb=>(hns b hb).2.2),?_,hgl,hend _ (fun b h=>(hx b (fun e=>hq2n (e.symm.trans h))).trans h) (fun b h=>(hx b (fun e=>hq20 (e.symm.trans h))).trans h) (fun b hb=>z8m hb)⟩
 obtain⟨gv,b1,b2,b3,b4⟩:=wk
 have hy:∀b,cA b=q→ownN cA ns rn b=q:=fun b h=>(hx b (fun e=>hq2 (e.symm.trans h))).trans h
 exact⟨gv,b1,b2,hy _ b3,fun b e=>hy b (b4 b e)⟩
theorem zbg {c2:Nat→Nat} {rn d m N n gk cp i n1:Nat} {w wf:World} {pg:Nat→Option Bs} {t ta:T} {x:KV} {gone gone2:List Nat} {lv va:Value} {kvs:List Value} {more:Bool}
 (hd0:¬d=0) (hi:i<t.ks.length) (hkn:t.ks.length=t.l.length+1) (hlm:m≤t.l.length) (hl4:t.l.length≤4) (hkv:∀y∈t.l,KVok y) (hsh:∀k∈t.ks,Shape d 2 k)
 (hfl:flat (d+1) t=inter t.l (t.ks.map (flat d))) (hp:∀f',f'=putL x (flat d t.ks[i])→inter t.l ((t.ks.map (flat d)).set i f')=putL x (inter t.l (t.ks.map (flat d))))
 (hbn:wf.heap[n]?=some (.cells #[.int .i64 0,lv,.slice (some ⟨gk,0,none⟩) kvs.length cp] 198 (0,0))) (hit:ItemsAt (Dt c2) wf lv t.l) (hkr:wf.ownsRow 0 20 1 (.slice (some ⟨gk,0,none⟩) kvs.length cp) kvs.length (kvs.set i va))
 (hkids:All2 (Rep c2 rn wf pg N False d) t.ks kvs) (h1:Rep c2 rn wf pg N False d ta va) (h2:Shape d 2 ta) (h3:flat d ta=putL x (flat d t.ks[i])) (h4:Acc n1 d t.ks[i] [ta] (gone++goneOf t) gone2)
 (hn:w.heap.size≤n) (hg:w.heap.size≤gk) (hng:n≠gk) (hn1:n<n1) (hg1:gk<n1) (h01:w.heap.size≤n1) (hz:∀b o,w.heap.size≤b→sumN (t.ks.map (cnt d (.cl b o)))=0) (hd:sumN (t.ks.map (dirtyN d))≤dirtyN (d+1) t) :
 ∀c',(∀b,c2 b=rn→c' b=rn)→(∀b,c2 b=0→c' b=0)→(∀b∈[n,gk],c' b=rn)→PutEnd c' rn wf pg N (d+1) m (putL x (flat (d+1) t)) more w.heap.size t gone gone2 (.returned (.tuple #[wInner n,.nilIface,.agg #[.slice none 0 0,.slice none 0 0],.bool more])):=by
 intro c' hc1 hc0 hcn
 have hkl:=All2.length hkids
 have hk0:kvs.set i va≠[]:=by
  intro e
  have:(kvs.set i va).length=0:=by rw[e];rfl
  rw[List.length_set] at this;omega
 obtain⟨_,_,hek,hkc1,hkc2⟩:=(Row.ofOwn hkr (F:=fun _=>True) (fun _ _=>trivial)).form
 injection hek with _ _ hek
 subst hek
 have hset:=All2.set (Rep.cc hc1 hc0 h1) i (hkids.imp fun _ _ h=>Rep.cc hc1 hc0 h)
 have hshp:Shape (d+1) m (.node (.mem n gk 0) t.l (t.ks.set i ta)):=⟨hlm,hl4,hkv,by rw[if_neg hd0,List.length_set];exact⟨hkn,fun k hk=>(List.mem_or_eq_of_mem_set hk).elim (hsh k) (fun e=>e▸h2)⟩⟩
 refine .one rfl (z8s (by rw[List.length_set];exact hbn) (hit.mono fun b h _=>hc0 b h) (hcn n (by simp)) (hcn gk (by simp)) hk0 (by rw[List.length_set];omega) hkc2 (fun j u hj=>by have:=hkr.cells (g:=gk) rfl j u hj;rw[add0] at this;rwa [Nat.zero_add]) hset (z8q hkr rfl)) hshp ?_ (zbc hi h4 hn hg hng hn1 hg1 h01 hz hd)
 rw[hfl,←hp _ h3]
 show(if d=0 then _ else _)=_
 rw[if_neg hd0,List.map_set]
theorem All2.append {α β:Type} {R:α→β→Prop}:∀{l l2:List α} {m m2:List β},All2 R l m→All2 R l2 m2→All2 R (l++l2) (m++m2)
 |_,_,_,_,.nil,h=>h
 |_,_,_,_,.cons h1 h2,h=>.cons h1 (All2.append h2 h)
theorem All2.take {α β:Type} {R:α→β→Prop}:∀{l:List α} {m:List β} (i:Nat),All2 R l m→All2 R (l.take i) (m.take i)
 |_,_,i,.nil=>by simpa using All2.nil
 |_,_,0,.cons h1 h2=>.nil
 |_,_,i+1,.cons h1 h2=>.cons h1 (All2.take i h2)
theorem All2.drop {α β:Type} {R:α→β→Prop}:∀{l:List α} {m:List β} (i:Nat),All2 R l m→All2 R (l.drop i) (m.drop i)
 |_,_,i,.nil=>by simpa using All2.nil
 |_,_,0,.cons h1 h2=>.cons h1 h2
 |_,_,i+1,.cons h1 h2=>All2.drop i h2
abbrev kin {α:Type} (l:List α) (i:Nat) (a b:α):List α:=(l.set i a).take (i+1)++b::(l.set i a).drop (i+1)
theorem zbh {α:Type} {l:List α} {i:Nat} {a b k:α} (h:k∈kin l i a b):k∈l∨k=a∨k=b:=by
 rcases List.mem_append.1 h with h|h
 · exact(List.mem_or_eq_of_mem_set (List.mem_of_mem_take h)).elim .inl (fun e=>.inr (.inl e))
 · rcases List.mem_cons.1 h with h|h
   · exact .inr (.inr h)
   · exact(List.mem_or_eq_of_mem_set (List.mem_of_mem_drop h)).elim .inl (fun e=>.inr (.inl e))
theorem zbi {α:Type} {l:List α} {i:Nat} {a b:α} (h:i<l.length):(kin l i a b).length=l.length+1:=by simp[kin];omega
theorem zbj {l:List KV} {i:Nat} {x:KV} (hkv:∀y∈l,KVok y) (hx:KVok x):∀y∈l.take i++x::l.drop i,KVok y:=fun y hy=>by
 rcases List.mem_append.1 hy with h|h
 · exact hkv y (List.mem_of_mem_take h)
 · rcases List.mem_cons.1 h with rfl|h
   · exact hx
   · exact hkv y (List.mem_of_mem_drop h)
theorem zbk {cA:Nat→Nat} {rn d m N n g cp i n1 n2:Nat} {w wf:World} {pg:Nat→Option Bs} {t ta tb:T} {x x2:KV} {gone gone2:List Nat} {lv va nx:Value} {kvs:List Value} {more:Bool}
 (hd0:¬d=0) (hi:i<t.ks.length) (hkn:t.ks.length=t.l.length+1) (hlm:m≤t.l.length) (hl4:t.l.length+1≤4) (hkv:∀y∈t.l,KVok y) (hx2:KVok x2) (hsh:∀k∈t.ks,Shape d 2 k)
 (hfl:flat (d+1) t=inter t.l (t.ks.map (flat d))) (hp:∀a mid b,a++mid::b=putL x (flat d t.ks[i])→inter (t.l.take i++mid::t.l.drop i) (((t.ks.map (flat d)).set i a).take (i+1)++b::((t.ks.map (flat d)).set i a).drop (i+1))=putL x (inter t.l (t.ks.map (flat d))))
 (hbn:wf.heap[n]?=some (.cells #[.int .i64 0,lv,.slice (some ⟨g,0,none⟩) (kvs.length+1) cp] 198 (0,0))) (hit:ItemsAt (Dt cA) wf lv (t.l.take i++x2::t.l.drop i)) (hkr:wf.ownsRow 0 20 1 (.slice (some ⟨g,0,none⟩) (kvs.length+1) cp) (kvs.length+1) (kin kvs i va nx))
 (hkids:All2 (Rep cA rn wf pg N False d) t.ks kvs) (h1:Rep cA rn wf pg N False d ta va) (h1b:Rep cA rn wf pg N False d tb nx) (h2:Shape d 2 ta) (h2b:Shape d 2 tb) (h3:flat d ta++x2::flat d tb=putL x (flat d t.ks[i])) (h4:Acc n1 d t.ks[i] [ta,tb] (gone++goneOf t) gone2)
 (hn:w.heap.size≤n) (hn1:n<n1) (hg:n2≤g) (h01:w.heap.size≤n1) (h12:n1≤n2) (hz:∀b o,w.heap.size≤b→sumN (t.ks.map (cnt d (.cl b o)))=0) (hz2:∀b o,n2≤b→cnt d (.cl b o) ta=0∧cnt d (.cl b o) tb=0) (hd:sumN (t.ks.map (dirtyN d))≤dirtyN (d+1) t) :
 ∀c',(∀b,cA b=rn→c' b=rn)→(∀b,cA b=0→c' b=0)→(∀b∈[n,g],c' b=rn)→PutEnd c' rn wf pg N (d+1) m (putL x (flat (d+1) t)) more w.heap.size t gone gone2 (.returned (.tuple #[wInner n,.nilIface,.agg #[.slice none 0 0,.slice none 0 0],.bool more])):=by
 intro c' hc1 hc0 hcn
 have hkl:=All2.length hkids
 have hlk:(kin kvs i va nx).length=kvs.length+1:=zbi (by omega)
 have hk0:kin kvs i va nx≠[]:=by
  intro e
  rw[e] at hlk;simp at hlk
 obtain⟨_,_,hek,hkc1,hkc2⟩:=(Row.ofOwn hkr (F:=fun _=>True) (fun _ _=>trivial)).form
 injection hek with _ _ hek
 subst hek
 have hset:=All2.set (Rep.cc hc1 hc0 h1) i (hkids.imp fun _ _ h=>Rep.cc hc1 hc0 h)
 have hkk:All2 (Rep c' rn wf pg N False d) (kin t.ks i ta tb) (kin kvs i va nx):=All2.append (All2.take (i+1) hset) (.cons (Rep.cc hc1 hc0 h1b) (All2.drop (i+1) hset))
 have hll:(t.l.take i++x2::t.l.drop i).length=t.l.length+1:=by simp;omega
 have hshp:Shape (d+1) m (.node (.mem n g 0) (t.l.take i++x2::t.l.drop i) (kin t.ks i ta tb)):=⟨by omega,by omega,zbj hkv hx2,by rw[if_neg hd0,zbi hi];exact⟨by omega,fun k hk=>by rcases zbh hk with h|h|h;exact hsh k h;exact h▸h2;exact h▸h2b⟩⟩
 refine .one rfl (z8s (by rw[hlk];exact hbn) (hit.mono fun b h _=>hc0 b h) (hcn n (by simp)) (hcn g (by simp)) hk0 (by rw[hlk];omega) hkc2 (fun j u hj=>by have:=hkr.cells (g:=g) rfl j u hj;rw[add0] at this;rwa [Nat.zero_add]) hkk (z8q hkr rfl)) hshp ?_ (zbd hi h4 hn hn1 hg h01 h12 hz hz2 hd)
 rw[hfl,←hp _ _ _ h3]
 show(if d=0 then _ else _)=_
 rw[if_neg hd0]
 simp only[kin,List.map_append,List.map_cons,List.map_take,List.map_drop,List.map_set]
theorem zbl {cA:Nat→Nat} {rn d m N na nb g cp i n1 n2:Nat} {w wf:World} {pg:Nat→Option Bs} {t ta tb:T} {x x2 y2:KV} {gone gone2:List Nat} {la lb va nx kv2 vv2:Value} {kvs:List Value} {more:Bool}
 (hd0:¬d=0) (hi:i<t.ks.length) (hkn:t.ks.length=t.l.length+1) (hl4:t.l.length=4) (hkv:∀y∈t.l,KVok y) (hx2:KVok x2) (hsh:∀k∈t.ks,Shape d 2 k)
 (hfl:flat (d+1) t=inter t.l (t.ks.map (flat d))) (hp:∀a mid b,a++mid::b=putL x (flat d t.ks[i])→inter (t.l.take i++mid::t.l.drop i) (((t.ks.map (flat d)).set i a).take (i+1)++b::((t.ks.map (flat d)).set i a).drop (i+1))=putL x (inter t.l (t.ks.map (flat d))))
 (hba:wf.heap[na]?=some (.cells #[.int .i64 0,la,.slice (some ⟨g,0,none⟩) 3 3] 198 (0,0))) (hbb:wf.heap[nb]?=some (.cells #[.int .i64 0,lb,.slice (some ⟨g,3,none⟩) 3 (cp-3)] 198 (0,0)))
 (hia:ItemsAt (Dt cA) wf la ((t.l.take i++x2::t.l.drop i).take 2)) (hib:ItemsAt (Dt cA) wf lb ((t.l.take i++x2::t.l.drop i).drop 3)) (hy:(t.l.take i++x2::t.l.drop i)[2]?=some y2) (hk2:BytesAt (Dt cA) wf kv2 y2.1) (hv2:BytesAt (Dt cA) wf vv2 y2.2)
 (hkr:wf.ownsRow 0 20 1 (.slice (some ⟨g,0,none⟩) (kvs.length+1) cp) (kvs.length+1) (kin kvs i va nx))
 (hkids:All2 (Rep cA rn wf pg N False d) t.ks kvs) (h1:Rep cA rn wf pg N False d ta va) (h1b:Rep cA rn wf pg N False d tb nx) (h2:Shape d 2 ta) (h2b:Shape d 2 tb) (h3:flat d ta++x2::flat d tb=putL x (flat d t.ks[i])) (h4:Acc n1 d t.ks[i] [ta,tb] (gone++goneOf t) gone2)
 (hna:n2≤na) (hnb:n2≤nb) (hg:n2≤g) (hne:na≠nb) (hag:na≠g) (hbg:nb≠g) (h01:w.heap.size≤n1) (h12:n1≤n2) (hz:∀b o,w.heap.size≤b→sumN (t.ks.map (cnt d (.cl b o)))=0) (hz2:∀b o,n2≤b→cnt d (.cl b o) ta=0∧cnt d (.cl b o) tb=0) (hd:sumN (t.ks.map (dirtyN d))≤dirtyN (d+1) t) :
 ∀c',(∀b,cA b=rn→c' b=rn)→(∀b,cA b=0→c' b=0)→(∀b∈[na,nb,g],c' b=rn)→PutEnd c' rn wf pg N (d+1) m (putL x (flat (d+1) t)) more w.heap.size t gone gone2 (.returned (.tuple #[wInner na,wInner nb,.agg #[kv2,vv2],.bool more])):=by
 intro c' hc1 hc0 hcn
 have hkl:=All2.length hkids
 have hlk:(kin kvs i va nx).length=kvs.length+1:=zbi (by omega)
 have hlk2:(kin t.ks i ta tb).length=t.ks.length+1:=zbi hi
 obtain⟨_,_,hek,hkc1,hkc2⟩:=(Row.ofOwn hkr (F:=fun _=>True) (fun _ _=>trivial)).form
 injection hek with _ _ hek
 subst hek
 have hset:=All2.set (Rep.cc hc1 hc0 h1) i (hkids.imp fun _ _ h=>Rep.cc hc1 hc0 h)
 have hkk:All2 (Rep c' rn wf pg N False d) (kin t.ks i ta tb) (kin kvs i va nx):=All2.append (All2.take (i+1) hset) (.cons (Rep.cc hc1 hc0 h1b) (All2.drop (i+1) hset))
 have hll:(t.l.take i++x2::t.l.drop i).length=5:=by simp;omega
 have hcells:∀j u,(kin kvs i va nx)[j]?=some u→wf.cell? ⟨g,j,none⟩=some u:=fun j u hj=>by have:=hkr.cells (g:=g) rfl j u hj;rwa [add0] at this
 have hacc:=zbe (la:=(t.l.take i++x2::t.l.drop i).take 2) (lb:=(t.l.take i++x2::t.l.drop i).drop 3) hi (by omega) h4 hna hnb hg hne hag hbg h01 h12 hz hz2 hd
 have hin:=hp _ _ _ h3
 have hmem:∀k∈kin t.ks i ta tb,Shape d 2 k:=fun k hk=>by rcases zbh hk with h|h|h;exact hsh k h;exact h▸h2;exact h▸h2b
 have hmap:((t.ks.map (flat d)).set i (flat d ta)).take (i+1)++flat d tb::((t.ks.map (flat d)).set i (flat d ta)).drop (i+1)=(kin t.ks i ta tb).map (flat d):=by simp only[kin,List.map_append,List.map_cons,List.map_take,List.map_drop,List.map_set]
 rw[hmap] at hin
 have hins:=zbj (i:=i) hkv hx2
 change Acc _ _ _ [.node (.mem na g 0) _ ((kin t.ks i ta tb).take 3),.node (.mem nb g 3) _ ((kin t.ks i ta tb).drop 3)] _ _ at hacc
 generalize t.l.take i++x2::t.l.drop i=l' at *
 generalize kin t.ks i ta tb=kk at *
 generalize kin kvs i va nx=vv at *
 have hy2:l'[2]'(by omega)=y2:=by rw[List.getElem?_eq_getElem (by omega)] at hy;injection hy
 have hl3:(vv.take 3).length=3:=by rw[List.length_take];omega
 have hl3b:(vv.drop 3).length=3:=by rw[List.length_drop];omega
 refine .two rfl (z8s (kvs:=vv.take 3) (by rw[hl3];exact hba) (hia.mono fun b h _=>hc0 b h) (hcn na (by simp)) (hcn g (by simp)) (fun e=>by rw[e] at hl3;simp at hl3) (by omega) (by unfold maxLen;omega) (fun j u hj=>by rw[Nat.zero_add];exact hcells j u (by rw[List.getElem?_take] at hj;split at hj;exact hj;cases hj)) (All2.take 3 hkk) (z8q hkr rfl))
  (z8s (kvs:=vv.drop 3) (by rw[hl3b];exact hbb) (hib.mono fun b h _=>hc0 b h) (hcn nb (by simp)) (hcn g (by simp)) (fun e=>by rw[e] at hl3b;simp at hl3b) (by rw[hl3b];omega) (by omega) (fun j u hj=>by rw[List.getElem?_drop] at hj;exact hcells _ u hj) (All2.drop 3 hkk) (z8q hkr rfl))
  ⟨by rw[List.length_take];omega,by rw[List.length_take];omega,fun y hy=>hins y (List.mem_of_mem_take hy),by rw[if_neg hd0,List.length_take,List.length_take];exact⟨by omega,fun k hk=>hmem k (List.mem_of_mem_take hk)⟩⟩
  ⟨by rw[List.length_drop];omega,by rw[List.length_drop];omega,fun y hy=>hins y (List.mem_of_mem_drop hy),by rw[if_neg hd0,List.length_drop,List.length_drop];exact⟨by omega,fun k hk=>hmem k (List.mem_of_mem_drop hk)⟩⟩
  (hk2.mono fun b h _=>hc0 b h) (hv2.mono fun b h _=>hc0 b h) (hins _ (by rw[←hy2];exact List.getElem_mem _)) ?_ hacc
 have hsp:=zao (l:=l') (fs:=kk.map (flat d)) hll (by simp;omega)
 rw[hfl,←hin,←hsp,hy2]
 show(if d=0 then _ else _)++y2::(if d=0 then _ else _)=_
 rw[if_neg hd0,if_neg hd0,List.map_take,List.map_drop]
end
end Go.Proofs.YtidalepbkljkpaaGreat
