import Derived.Test.YtidalepbkljkpaaGreatLocalSpaces36
set_option linter.all false
namespace Go.Proofs.YtidalepbkljkpaaGreat
open Go.RowKit Go.H
set_option maxHeartbeats 2000000
set_option maxRecDepth 100000
section
variable {d a : Nat} {ks : List T}
theorem zgl (f:T→Nat) (h:a+1<ks.length):sumN (ks.map f)=sumN ((ks.take a).map f)+f ks[a]+f ks[a+1]+sumN ((ks.drop (a+2)).map f):=by
 have h1:=zfh h
 have:sumN (ks.map f)=sumN ((ks.take a++ks[a]::ks[a+1]::ks.drop (a+2)).map f):=congrArg (fun l=>sumN (l.map f)) h1
 rw[this]
 simp only[List.map_append,List.map_cons,z74,sumN]
 omega
theorem zgm (f:T→Nat) (t:T):sumN ((ks.take a++t::ks.drop (a+2)).map f)=sumN ((ks.take a).map f)+f t+sumN ((ks.drop (a+2)).map f):=by
 simp only[List.map_append,List.map_cons,z74,sumN]
 omega
theorem zgn (f:T→Nat) (t u:T) (h:a+1<ks.length):sumN (((ks.set a t).set (a+1) u).map f)=sumN ((ks.take a).map f)+f t+f u+sumN ((ks.drop (a+2)).map f):=by
 have hl:a+1<((ks.set a t).set (a+1) u).length:=by simpa using h
 rw[zgl f hl]
 have e1:((ks.set a t).set (a+1) u)[a]=t:=by simp[List.getElem_set]
 have e2:((ks.set a t).set (a+1) u)[a+1]=u:=by simp[List.getElem_set]
 rw[e1,e2,List.take_set_of_le (by omega),List.take_set_of_le (Nat.le_refl _),List.drop_set_of_lt (by omega),List.drop_set_of_lt (by omega)]
theorem zgo {n0 n g:Nat} {l:List KV} {gone gone':List Nat} (h:a+1<ks.length) (hn:n0≤n) (hg:n0≤g) (hng:g≠n) (hz:∀b o,n0≤b→sumN (ks.map (cnt (d+1) (.cl b o)))=0) (hd1:sumN (ks[a].ks.map (dirtyN d))≤dirtyN (d+1) ks[a]) (hd2:sumN (ks[a+1].ks.map (dirtyN d))≤dirtyN (d+1) ks[a+1]) (hgo:∀id,gone'.count id=gone.count id+(goneOf ks[a]).count id+(goneOf ks[a+1]).count id) :
 AccL n0 (d+1) 1 ks (ks.take a++.node (.mem n g 0) l (ks[a].ks++ks[a+1].ks)::ks.drop (a+2)) gone gone':=by
 refine⟨fun id=>?_,fun b o=>?_,?_⟩
 · rw[zgm,zgl _ h,zba,zb3 d id ks[a],zb3 d id ks[a+1],hgo,List.map_append,z74]
   omega
 · have h1:=zb4 d b o ks[a]
   have h2:=zb4 d b o ks[a+1]
   have h3:=hz b o
   have h4:=zgl (cnt (d+1) (.cl b o)) h
   rw[zgm,zb5,List.map_append,z74]
   by_cases e1:b=n
   · rw[if_neg (c:=b=g∧_) (fun e=>hng (e.1.symm.trans e1)),if_neg (c:=b<n0) (by omega)]
     have:=h3 (by omega)
     split<;>omega
   · by_cases e2:b=g
     · rw[if_neg (c:=b=n∧_) (fun e=>e1 e.1),if_neg (c:=b<n0) (by omega)]
       have:=h3 (by omega)
       split<;>omega
     · rw[if_neg (fun e=>e1 e.1),if_neg (fun e=>e2 e.1)]
       split
       · omega
       · have:=h3 (by omega)
         omega
 · rw[zgm,zgl _ h]
   show _+(1+_)+_≤_
   rw[List.map_append,z74]
   omega
theorem zgp {n0 na nb g m:Nat} {l l':List KV} {gone gone':List Nat} (h:a+1<ks.length) (hna:n0≤na) (hnb:n0≤nb) (hg:n0≤g) (hne:na≠nb) (hga:g≠na) (hgb:g≠nb) (hz:∀b o,n0≤b→sumN (ks.map (cnt (d+1) (.cl b o)))=0) (hd:1+sumN (ks[a].ks.map (dirtyN d))+sumN (ks[a+1].ks.map (dirtyN d))≤dirtyN (d+1) ks[a]+dirtyN (d+1) ks[a+1]) (hgo:∀id,gone'.count id=gone.count id+(goneOf ks[a]).count id+(goneOf ks[a+1]).count id) :
 AccL n0 (d+1) 1 ks ((ks.set a (.node (.mem na g 0) l ((ks[a].ks++ks[a+1].ks).take (m+1)))).set (a+1) (.node (.mem nb g (m+1)) l' ((ks[a].ks++ks[a+1].ks).drop (m+1)))) gone gone':=by
 have hs:=fun f:T→Nat=>(zb9 (ks[a].ks++ks[a+1].ks) (m+1) f).trans (by rw[List.map_append,z74])
 have hlt:((ks[a].ks++ks[a+1].ks).take (m+1)).length≤m+1:=by rw[List.length_take];omega
 refine⟨fun id=>?_,fun b o=>?_,?_⟩
 · have:=hs (cnt d (.pg id))
   rw[zgn _ _ _ h,zgl _ h,zba,zba,zb3 d id ks[a],zb3 d id ks[a+1],hgo]
   omega
 · have h1:=zb4 d b o ks[a]
   have h2:=zb4 d b o ks[a+1]
   have h3:=hz b o
   have h4:=zgl (cnt (d+1) (.cl b o)) h
   have h5:=hs (cnt d (.cl b o))
   rw[zgn _ _ _ h,zb5,zb5]
   by_cases e1:b=na
   · rw[if_neg (c:=b=g∧0≤_∧_) (fun e=>hga (e.1.symm.trans e1)),if_neg (c:=b=nb∧_) (fun e=>hne (e1.symm.trans e.1)),if_neg (c:=b=g∧m+1≤_∧_) (fun e=>hga (e.1.symm.trans e1)),if_neg (c:=b<n0) (by omega)]
     have:=h3 (by omega)
     split<;>omega
   · by_cases e2:b=nb
     · rw[if_neg (c:=b=na∧_) (fun e=>e1 e.1),if_neg (c:=b=g∧0≤_∧_) (fun e=>hgb (e.1.symm.trans e2)),if_neg (c:=b=g∧m+1≤_∧_) (fun e=>hgb (e.1.symm.trans e2)),if_neg (c:=b<n0) (by omega)]
       have:=h3 (by omega)
       split<;>omega
     · rw[if_neg (c:=b=na∧_) (fun e=>e1 e.1),if_neg (c:=b=nb∧_) (fun e=>e2 e.1)]
       by_cases e3:b=g
       · rw[if_neg (c:=b<n0) (by omega)]
         have:=h3 (by omega)
         split<;>split<;>omega
       · rw[if_neg (fun e=>e3 e.1),if_neg (fun e=>e3 e.1)]
         split
         · omega
         · have:=h3 (by omega)
           omega
 · have:=hs (dirtyN d)
   rw[zgn _ _ _ h,zgl _ h]
   show _+(1+_)+(1+_)+_≤_
   omega
theorem zgq {t:T} (h:∃n g o,t.nm=.mem n g o):goneOf t=[]:=by
 obtain⟨n,g,o,e⟩:=h
 simp[goneOf,e]
theorem zgr {t:T} (h:∃n g o,t.nm=.mem n g o):dirtyN (d+1) t=1+sumN (t.ks.map (dirtyN d)):=by
 obtain⟨nm,l,ks⟩:=t
 obtain⟨n,g,o,rfl⟩:=h
 rfl
theorem zgs {c:Nat→Nat} {r rn q:Nat} {w:World} {tp st wp:Nat} {S:SSt} {D:DSt} {d m:Nat} {t:T} {v:Value} {gone:List Nat} (hq0:q≠0) (hqr:q≠r) (hqn:q≠rn) (h:Hd c r w tp st S D) (hc:Cl w c) (hw:WorkAt c q w wp tp gone) (hr:Rep c rn w (pgs D) D.blocks False (d+1) t v) (hs:Shape (d+1) m t) (hm:1≤m) (hgl:gone.length≤1000000) :
 Calls Tryz.prog 160 #[.pointer (some ⟨wp,0,none⟩),v] w fun e w'=>Fr (fun b=>c b=q) w w'∧∃tx y,e=.returned (.iface tx y)∧∃c' nn gg,Ag w.heap.size c c'∧Cl w' c'∧WorkAt c' q w' wp tp (gone++goneOf t)∧Rep c' rn w' (pgs D) D.blocks False (d+1) (.node (.mem nn gg 0) t.l t.ks) (.iface tx y):=by
 have hsh:=hs
 refine(z8i hq0 hqr hqn h hc hw hr hs hm hgl).mono ?_
 rintro e w' ⟨f,v',n,lv,kv,xs,kvs,c1,rfl,⟨o1,hp⟩,hks,hxl,hcells,hn,hcn,hlo,hko,hln,ha1,hcl1,hw1⟩
 have hol:xs.length / 2=t.l.length:=by omega
 rw[hol] at o1
 have hkl:=All2.length hks
 have hlt:n<w'.heap.size:=by
  rcases hp with⟨_,_,hb⟩|⟨_,_,hb,_⟩<;>exact(Array.getElem?_eq_some_iff.1 hb).1
 have hkids:∀{c':Nat→Nat},Ag w.heap.size c c'→All2 (Rep c' rn w' (pgs D) D.blocks False d) t.ks kvs:=fun {c'} hag=>hks.imp fun _ _ h=>by
  have hb:∀b,c b=q→c' b=q:=fun b e=>by
   by_cases hl:b<w.heap.size
   · rw[hag b hl];exact e
   · exact absurd ((hc b (by omega)).symm.trans e) (fun k=>hq0 k.symm)
  exact Rep.fr f (fun b e k=>hqn ((hb b e).symm.trans k)) (fun b e k=>hq0 ((hb b e).symm.trans k)) (Rep.ag hag h)
 have hlr:∀{ns:List Nat},(∀b∈ns,b=n∨kv.ownBlock=some b)→ItemsAt (Dt (ownN c1 ns rn)) w' lv t.l:=fun {ns} hns=>by
  have hk2:∀b,kv.ownBlock=some b→¬lv.ownBlock=some b:=fun b e=>(hko b e).2.2.2
  exact ItemsAt.ofCells (Row.ofOwn o1 (fun b e=>by show ownN c1 ns rn b=0;rw[z8n (fun hm=>(hns b hm).elim (fun k=>hln (k▸e)) (fun k=>hk2 b k e))];exact(hlo b e).2)) (hcells.mono (fun b h _=>by show ownN c1 ns rn b=0;rw[z8n (fun hm=>(hns b hm).elim h.2.1 h.2.2.2)];exact h.1))
 refine⟨f,?_⟩
 rcases hp with⟨rfl,rfl,hb⟩|⟨hd,rfl,hb,ok⟩
 · have hk0:t.ks=[]:=by obtain⟨nm,l,ks⟩:=t;have:=hsh.2.2.2;rw[if_pos rfl] at this;exact this
   refine⟨_,_,rfl,ownN c1 [n] rn,n,0,z8o ha1 (fun b hb=>by simp at hb;omega),z8p hcl1 (fun b hb=>by simp at hb;omega),WorkAt.ownN hw1 hq0 (fun b hb=>by simp at hb;rw[hb];exact hcn),?_⟩
   rw[hk0]
   exact rep_leaf' hb (hlr (fun b hb=>by simp at hb;exact .inl hb)) (z8m (by simp))
 · have hkn:t.ks.length=t.l.length+1:=by obtain⟨nm,l,ks⟩:=t;have:=hsh.2.2.2;rw[if_neg hd] at this;exact this.1
   obtain⟨A,cp,rfl,hA⟩:=z0o ok
   obtain⟨g,rfl⟩:∃g,A=some ⟨g,0,none⟩:=by
    cases A with
    | none =>
      rcases ok.2 with⟨e',h0⟩|⟨g,cap,cur,e',_⟩
      · omega
      · cases e'
    |some a=>obtain⟨g,rfl⟩:=hA a rfl;exact⟨g,rfl⟩
   have hg:=hko g rfl
   have hgl2:=(ok.lt g rfl).2
   obtain⟨_,_,hek,hkc1,hkc2⟩:=(Row.ofOwn ok (F:=fun _=>True) (fun _ _=>trivial)).form
   injection hek with _ _ hek
   subst hek
   have hag:Ag w.heap.size c (ownN c1 [n,g] rn):=z8o ha1 (fun b hb=>by rcases(by simpa using hb:b=n∨b=g) with e|e<;>omega)
   exact⟨_,_,rfl,ownN c1 [n,g] rn,n,g,hag,z8p hcl1 (fun b hb=>by rcases(by simpa using hb:b=n∨b=g) with e|e<;>omega),WorkAt.ownN hw1 hq0 (fun b hb=>by rcases(by simpa using hb:b=n∨b=g) with e|e;rw[e];exact hcn;rw[e];exact hg.2.1),z8s hb (hlr (fun b hb=>by rcases(by simpa using hb:b=n∨b=g) with e|e;exact .inl e;exact .inr (by rw[e];rfl))) (z8m (by simp)) (z8m (by simp)) (by rintro rfl;have h2:t.ks.length=0:=hkl;omega) hkc1 hkc2 (fun j u hj=>by have:=ok.cells (g:=g) rfl j u hj;rw[add0] at this;rwa [Nat.zero_add]) (hkids hag) (z8q ok rfl)⟩
end
section
def T.isMem' (t:T):Prop:=∃n g o,t.nm=.mem n g o
theorem zgt {d m:Nat} {t:T} (h:Shape (d+1) m t):m≤t.l.length∧t.l.length≤4∧(∀x∈t.l,KVok x)∧(d=0→t.ks=[])∧(¬d=0→t.ks.length=t.l.length+1∧∀k∈t.ks,Shape d 2 k)∧t.ks.length≤5:=by
 obtain⟨nm,l,ks⟩:=t
 obtain⟨h1,h2,h3,h4⟩:=h
 refine⟨h1,h2,h3,fun e=>by rw[if_pos e] at h4;exact h4,fun e=>by rw[if_neg e] at h4;exact h4,?_⟩
 show ks.length≤5
 split at h4
 · rw[h4];simp
 · omega
theorem zgu (d:Nat) (t:T):flat (d+1) t=if d=0 then t.l else inter t.l (t.ks.map (flat d)):=by cases t;rfl
theorem zgv (d:Nat) (nm:Nm) (l:List KV) (ks:List T):flat (d+1) (.node nm l ks)=if d=0 then l else inter l (ks.map (flat d)):=rfl
theorem zgw {d m1 m2:Nat} {t1 t2:T} {x:KV} {nm:Nm} (h1:Shape (d+1) m1 t1) (h2:Shape (d+1) m2 t2):flat (d+1) (.node nm (t1.l++x::t2.l) (t1.ks++t2.ks))=flat (d+1) t1++x::flat (d+1) t2:=by
 rw[zgv,zgu d t1,zgu d t2]
 have s1:=zgt h1
 have s2:=zgt h2
 by_cases hd:d=0
 · rw[if_pos hd,if_pos hd,if_pos hd]
 · rw[if_neg hd,if_neg hd,if_neg hd]
   rw[List.map_append]
   exact z6x x t2.l (t2.ks.map (flat d)) (by simpa using (s1.2.2.2.2.1 hd).1) (fun e=>by have:=(s2.2.2.2.2.1 hd).1;have h3:=congrArg List.length e;simp at h3;rw[h3] at this;simp at this)
theorem zgx {d m1 m2 m:Nat} {t1 t2:T} {x y:KV} {nm nm':Nm} (h1:Shape (d+1) m1 t1) (h2:Shape (d+1) m2 t2) (hm:m<(t1.l++x::t2.l).length) (hy:(t1.l++x::t2.l)[m]?=some y) :
 flat (d+1) (.node nm ((t1.l++x::t2.l).take m) ((t1.ks++t2.ks).take (m+1)))++y::flat (d+1) (.node nm' ((t1.l++x::t2.l).drop (m+1)) ((t1.ks++t2.ks).drop (m+1)))=flat (d+1) t1++x::flat (d+1) t2:=by
 rw[←zgw (nm:=nm) h1 h2,zgv,zgv,zgv]
 have s1:=zgt h1
 have s2:=zgt h2
 have hy2:(t1.l++x::t2.l)[m]=y:=by rw[List.getElem?_eq_getElem hm] at hy;injection hy
 by_cases hd:d=0
 · rw[if_pos hd,if_pos hd,if_pos hd,←hy2,←List.drop_eq_getElem_cons,List.take_append_drop]
 · rw[if_neg hd,if_neg hd,if_neg hd]
   have k1:=(s1.2.2.2.2.1 hd).1
   have k2:=(s2.2.2.2.2.1 hd).1
   have:=zfm (l:=t1.l++x::t2.l) (fs:=(t1.ks++t2.ks).map (flat d)) (n:=m) (by simp;omega) hm
   rw[←this,hy2,List.map_take,List.map_drop]
theorem zgy {d m1 m2 m k:Nat} {t1 t2:T} {x:KV} {nm:Nm} (h1:Shape (d+1) m1 t1) (h2:Shape (d+1) m2 t2) (hx:KVok x):(k≤m→m<(t1.l++x::t2.l).length→m≤4→Shape (d+1) k (.node nm ((t1.l++x::t2.l).take m) ((t1.ks++t2.ks).take (m+1))))∧(k+m+1≤(t1.l++x::t2.l).length→(t1.l++x::t2.l).length≤5+m→Shape (d+1) k (.node nm ((t1.l++x::t2.l).drop (m+1)) ((t1.ks++t2.ks).drop (m+1))))∧(k≤(t1.l++x::t2.l).length→(t1.l++x::t2.l).length≤4→Shape (d+1) k (.node nm (t1.l++x::t2.l) (t1.ks++t2.ks))):=by
 have s1:=zgt h1
 have s2:=zgt h2
 have hall:∀y∈t1.l++x::t2.l,KVok y:=fun y hy=>by
  rcases List.mem_append.1 hy with h|h
  · exact s1.2.2.1 y h
  · rcases List.mem_cons.1 h with rfl|h
    · exact hx
    · exact s2.2.2.1 y h
 have hks:¬d=0→(t1.ks++t2.ks).length=(t1.l++x::t2.l).length+1∧∀k∈t1.ks++t2.ks,Shape d 2 k:=fun hd=>by
  have k1:=s1.2.2.2.2.1 hd
  have k2:=s2.2.2.2.2.1 hd
  exact⟨by simp;omega,fun k hk=>(List.mem_append.1 hk).elim (k1.2 k) (k2.2 k)⟩
 have hk0:d=0→t1.ks++t2.ks=[]:=fun hd=>by rw[s1.2.2.2.1 hd,s2.2.2.2.1 hd];rfl
 generalize t1.l++x::t2.l=L at *
 generalize t1.ks++t2.ks=K at *
 refine⟨fun a1 a2 a3=>⟨by rw[List.length_take];omega,by rw[List.length_take];omega,fun y hy=>hall y (List.mem_of_mem_take hy),?_⟩,fun a1 a2=>⟨by rw[List.length_drop];omega,by rw[List.length_drop];omega,fun y hy=>hall y (List.mem_of_mem_drop hy),?_⟩,fun a1 a2=>⟨a1,a2,hall,?_⟩⟩
 all_goals
  by_cases hd:d=0
  · rw[if_pos hd,hk0 hd];try simp
  · rw[if_neg hd]
    first
     |exact hks hd
     |exact⟨by rw[List.length_take,List.length_take,(hks hd).1];omega,fun k hk=>(hks hd).2 k (List.mem_of_mem_take hk)⟩
     |exact⟨by rw[List.length_drop,List.length_drop,(hks hd).1];omega,fun k hk=>(hks hd).2 k (List.mem_of_mem_drop hk)⟩
end
section
structure MendRes (c:Nat→Nat) (qn rn q:Nat) (w:World) (pg:Nat→Option Bs) (N d n:Nat) (l:List KV) (ks:List T) (wp tp:Nat) (gone:List Nat) (w':World):Prop where
 fr:Fr (fun b=>c b=q∨c b=qn) w w'
 ex:∃c' l' ks' gone',Ag w.heap.size c c'∧Cl w' c'∧WorkAt c' q w' wp tp gone'∧InnerOpen c' qn rn w' pg N d n l' ks'∧ks'.length=l'.length+1∧(∀k∈ks',Shape d 2 k)∧(∀y∈l',KVok y)∧l.length≤l'.length+1∧l'.length≤l.length∧
  inter l' (ks'.map (flat d))=inter l (ks.map (flat d))∧AccL w.heap.size d 1 ks ks' gone gone'∧gone'.length≤gone.length+1
theorem All2.at_ {α β:Type} {R:α→β→Prop}:∀{l:List α} {m:List β} (i:Nat) (h1:i<l.length) (h2:i<m.length),All2 R l m→R l[i] m[i]
 |_,_,_,h,_,.nil=>by simp at h
 |_,_,0,_,_,.cons a b=>a
 |_,_,i+1,h1,h2,.cons a b=>All2.at_ i (by simpa using h1) (by simpa using h2) b
structure MendMid (c c1:Nat→Nat) (rn q:Nat) (w wx:World) (pg:Nat→Option Bs) (N d:Nat) (t1 t2:T) (lf rt:Value) (wp tp:Nat) (gone gone1:List Nat):Prop where
 fr:Fr (fun b=>c b=q) w wx
 ag:Ag w.heap.size c c1
 cl:Cl wx c1
 wk:WorkAt c1 q wx wp tp gone1
 pair:Pair2 c1 rn wx pg N d lf rt t1.l t2.l t1.ks t2.ks
 cnt:∀id,gone1.count id=gone.count id+(goneOf t1).count id+(goneOf t2).count id
 len:gone1.length≤gone.length+1
theorem zgz {c1:Nat→Nat} {rn:Nat} {wx:World} {pg:Nat→Option Bs} {N d m1 m2:Nat} {t1 t2:T} {lf rt:Value} (h1:Shape (d+1) m1 t1) (h2:Shape (d+1) m2 t2) (r1:∃n g o,Rep c1 rn wx pg N False (d+1) (.node (.mem n g o) t1.l t1.ks) lf) (r2:∃n g o,Rep c1 rn wx pg N False (d+1) (.node (.mem n g o) t2.l t2.ks) rt):Pair2 c1 rn wx pg N d lf rt t1.l t2.l t1.ks t2.ks:=by
 have s1:=zgt h1
 have s2:=zgt h2
 refine⟨r1,r2,fun e=>⟨s1.2.2.2.1 e,s2.2.2.2.1 e⟩,fun e=>⟨fun k=>?_,fun k=>?_⟩,by omega,by omega,by omega,by omega⟩
 · have:=(s1.2.2.2.2.1 e).1;rw[k] at this;simp at this
 · have:=(s2.2.2.2.2.1 e).1;rw[k] at this;simp at this
theorem zh0 {t:T} {n g o:Nat} {l:List KV} {ks:List T} (h:t=.node (.mem n g o) l ks):t=.node (.mem n g o) t.l t.ks:=by rw[h];rfl
theorem zh1 {α:Type} {l:List α} {a:Nat} {v:α} (h:a<l.length):(l.take (a+1)++l.drop (a+2)).set a v=l.take a++v::l.drop (a+2):=by
 rw[List.take_succ_eq_append_getElem h,List.append_assoc,List.set_append_right _ _ (by rw[List.length_take];omega)]
 congr 1
 rw[List.length_take,Nat.min_eq_left (by omega),Nat.sub_self]
 rfl
variable {c c1 c5 : Nat → Nat} {rn q qn : Nat} {w w1 w3 w4 w5 w6 w7 w8 : World} {pg : Nat → Option Bs} {N d n a wp tp : Nat} {l : List KV} {ks : List T} {lv kv lf rt : Value} {xs kvs : List Value} {gone gone1 : List Nat}
theorem zh2 {w_:World} {vl vr kv vv:Value} {l1 l2:List KV} {ks1 ks2:List T} {x:KV} (hf:Fr C0 w w_) (hc:Cl w c) (h0:rn≠0) (h:Pair2 c rn w pg N d vl vr l1 l2 ks1 ks2) (hk:BytesAt (Dt c) w kv x.1) (hv:BytesAt (Dt c) w vv x.2) :
 Calls Tryz.prog 179 #[vl,.agg #[kv,vv],vr] w_ fun e w'=>Fr C0 w w'∧∃tx y,e=.returned (.iface tx y)∧Hid (∃nj gj c5,Ag w.heap.size c c5∧Cl w' c5∧w.heap.size≤nj∧w.heap.size≤gj∧gj≠nj∧Rep c5 rn w' pg N False (d+1) (.node (.mem nj gj 0) (l1++x::l2) (ks1++ks2)) (.iface tx y)):=by
 refine(zgg (hc.mono hf.size) h0 (h.fr0 hf) (hk.fr0 hf) (hv.fr0 hf)).mono ?_
 rintro e w' ⟨f,tx,y,h1,nj,gj,c5,h2,h3,h4,h5,h6,h7⟩
 have:=hf.size
 exact⟨hf.trans0 f,tx,y,h1,zhd ⟨nj,gj,c5,fun b hb=>h2 b (by omega),h3,by omega,by omega,h6,h7⟩⟩
theorem zh3 {w_:World} {vl vr kv vv:Value} {l1 l2:List KV} {ks1 ks2:List T} {x:KV} {m:Nat} (hf:Fr C0 w w_) (hc:Cl w c) (h0:rn≠0) (h:Pair2 c rn w pg N d vl vr l1 l2 ks1 ks2) (hk:BytesAt (Dt c) w kv x.1) (hv:BytesAt (Dt c) w vv x.2) (hm:m+1<l1.length+1+l2.length) (hkl:¬d=0→(ks1++ks2).length=l1.length+1+l2.length+1) :
 Calls Tryz.prog 180 #[vl,.agg #[kv,vv],vr,.int .i64 (m:Int)] w_ fun e w'=>Fr C0 w w'∧∃ta ya kA kn kc vA vn vc tb yb,e=.returned (.tuple #[.iface ta ya,.agg #[.slice kA kn kc,.slice vA vn vc],.iface tb yb])∧Hid (∃c',Shared c rn w w' pg N d m (l1++x::l2) (ks1++ks2) (.iface ta ya) (.iface tb yb) (.slice kA kn kc) (.slice vA vn vc) c'):=by
 refine(zgk (hc.mono hf.size) h0 (h.fr0 hf) (hk.fr0 hf) (hv.fr0 hf) hm hkl).mono ?_
 rintro e w' ⟨f,ta,ya,kA,kn,kc,vA,vn,vc,tb,yb,h1,c',s⟩
 have:=hf.size
 obtain⟨na,nb,g,h2,h3,h4,h5⟩:=s.ex
 exact⟨hf.trans0 f,ta,ya,kA,kn,kc,vA,vn,vc,tb,yb,h1,zhd ⟨c',fun b hb=>s.ag b (by omega),s.cl,⟨na,nb,g,by omega,by omega,by omega,h5⟩,s.mid⟩⟩
theorem zh4 {nj gj g3 k3:Nat} {vj v7:Value} (hq0:q≠0) (hn0:qn≠0) (hnn:qn≠rn) (hnq:qn≠q) (hc:Cl w c) (ha:a+1<ks.length) (mid:MendMid c c1 rn q w w1 pg N d ks[a] ks[a+1] lf rt wp tp gone gone1) (hcn:c n=qn) (hnl:n<w.heap.size)
 (ol:w1.ownsRow 0 200 2 lv l.length xs) (ic:ItemCells (Dt c1) w1 xs l) (ok:w1.ownsRow 0 20 1 kv kvs.length kvs) (ka:All2 (Rep c1 rn w1 pg N False (d+1)) ks kvs)
 (S1:Shape (d+1) 1 ks[a]) (S2:Shape (d+1) 1 ks[a+1]) (hoth:∀j (h:j<ks.length),j≠a→j≠a+1→Shape (d+1) 2 ks[j]) (hlen:ks.length=l.length+1) (hkv:∀y∈l,KVok y) (h4:ks[a].l.length+1+ks[a+1].l.length≤4) (hz:∀b o,w.heap.size≤b→sumN (ks.map (cnt (d+1) (.cl b o)))=0)
 (hd1:sumN (ks[a].ks.map (dirtyN d))≤dirtyN (d+1) ks[a]) (hd2:sumN (ks[a+1].ks.map (dirtyN d))≤dirtyN (d+1) ks[a+1])
 (f3:Fr C0 w1 w3) (o3:w3.ownsRow w1.heap.size 20 1 (.slice (some ⟨g3,0,none⟩) (kvs.length-1) k3) (kvs.length-1) (kvs.take (a+1)++kvs.drop (a+1+1))) (f4:Fr (fun b=>b=n) w3 w4) (f5:Fr C0 w4 w5) (ag5:Ag w4.heap.size (ownN c1 [g3] qn) c5) (cl5:Cl w5 c5)
 (hnj:w4.heap.size≤nj) (hgj:w4.heap.size≤gj) (hng:gj≠nj) (rj:Rep c5 rn w5 pg N False (d+1) (.node (.mem nj gj 0) (ks[a].l++(l[a]'(by omega))::ks[a+1].l) (ks[a].ks++ks[a+1].ks)) vj) (f6:Fr (fun b=>b=g3) w5 w6) (o6:w6.ownsRow w1.heap.size 20 1 (.slice (some ⟨g3,0,none⟩) (kvs.length-1) k3) (kvs.length-1) ((kvs.take (a+1)++kvs.drop (a+1+1)).set a vj))
 (f7:Fr C0 w6 w7) (o7:w7.ownsRow w6.heap.size 200 2 v7 (l.length-1) (xs.take (a*2)++xs.drop ((a+1)*2))) (f8:Fr (fun b=>b=n) w7 w8) (b8:w8.heap[n]?=some (.cells #[.int .i64 0,v7,.slice (some ⟨g3,0,none⟩) (kvs.length-1) k3] 198 (0,0))) :
 MendRes c qn rn q w pg N (d+1) n l ks wp tp gone w8:=by
 have s1:=mid.fr.size
 have s3:=f3.size
 have s4:=f4.size
 have s5:=f5.size
 have s6:=f6.size
 have s7:=f7.size
 have s8:=f8.size
 have hkl:=All2.length ka
 have hg3:=o3.lt g3 rfl
 have h7:=o7.lt
 have e5:∀b,b<w1.heap.size→c5 b=c1 b:=fun b hb=>by rw[ag5 b (by omega),z8n (by simp;omega)]
 have e5g:c5 g3=qn:=by rw[ag5 g3 (by omega)];exact z8m (by simp)
 have hcn1:c1 n=qn:=(mid.ag n hnl).trans hcn
 obtain⟨c8,e8,e87⟩:∃c8:Nat→Nat,(∀b,¬v7.ownBlock=some b→c8 b=c5 b)∧∀b,v7.ownBlock=some b→c8 b=qn:=⟨setc c5 v7.ownBlock qn,fun b h=>by unfold setc;rw[if_neg h],fun b h=>by unfold setc;rw[if_pos h]⟩
 have e86:∀b,b<w6.heap.size→c8 b=c5 b:=fun b hb=>e8 b (fun e=>by have:=(h7 b e).1;omega)
 have e81:∀b,b<w1.heap.size→c8 b=c1 b:=fun b hb=>(e86 b (by omega)).trans (e5 b hb)
 have F18:Fr (fun b=>b=n) w1 w8:=(((((f3.mono (fun _ _ h=>h.elim)).trans f4 (fun _ _ h=>h)).trans0 f5).trans f6 (fun b hb e=>by omega)).trans0 f7).trans f8 (fun _ _ h=>h)
 have F58:Fr (fun b=>b=g3∨b=n) w5 w8:=((f6.mono (fun _ _ h=>.inl h)).trans0 f7).trans f8 (fun _ _ h=>.inr h)
 have hc8n:c8 n=qn:=(e81 n (by omega)).trans hcn1
 have hc8g:c8 g3=qn:=(e86 g3 (by omega)).trans e5g
 have hag:Ag w.heap.size c c8:=fun b hb=>(e81 b (by omega)).trans (mid.ag b hb)
 have hkold:All2 (Rep c8 rn w8 pg N False (d+1)) ks kvs:=ka.imp fun _ _ h=>Rep.fr F18 (fun b e k=>hnn (by rw[←hc8n,←e];exact k)) (fun b e k=>hn0 (by rw[←hc8n,←e];exact k)) (Rep.ag e81 h)
 have hj:Rep c8 rn w8 pg N False (d+1) (.node (.mem nj gj 0) (ks[a].l++(l[a]'(by omega))::ks[a+1].l) (ks[a].ks++ks[a+1].ks)) vj:=Rep.fr F58 (fun b e k=>by rcases e with e|e;exact hnn (by rw[←hc8g,←e];exact k);exact hnn (by rw[←hc8n,←e];exact k)) (fun b e k=>by rcases e with e|e;exact hn0 (by rw[←hc8g,←e];exact k);exact hn0 (by rw[←hc8n,←e];exact k)) (Rep.ag (fun b hb=>e86 b (by omega)) rj)
 have hic:ItemCells (Dt c8) w8 xs l:=((ic.mono (F':=fun b=>c1 b=0∧b<w1.heap.size) (fun b h hl=>⟨h,hl⟩)).fr F18 (fun b h e=>hn0 (by rw[←hcn1,←e];exact h.1))).mono (fun b h _=>(e81 b h.2).trans h.1)
 have hg3n:g3≠n:=by omega
 have hkvs:(kvs.take (a+1)++kvs.drop (a+1+1)).set a vj=kvs.take a++vj::kvs.drop (a+2):=zh1 (by omega)
 rw[hkvs] at o6
 have hks0:∀k∈ks.take a++.node (.mem nj gj 0) (ks[a].l++(l[a]'(by omega))::ks[a+1].l) (ks[a].ks++ks[a+1].ks)::ks.drop (a+2),Shape (d+1) 2 k:=fun k hk=>by
  rcases List.mem_append.1 hk with hk|hk
  · obtain⟨j,hj,rfl⟩:=List.getElem_of_mem hk
    have:j<a:=by simp at hj;omega
    rw[List.getElem_take]
    exact hoth j (by omega) (by omega) (by omega)
  · rcases List.mem_cons.1 hk with rfl|hk
    · have:=(zgy (x:=l[a]'(by omega)) (nm:=.mem nj gj 0) (m:=0) (k:=2) S1 S2 (hkv _ (List.getElem_mem _))).2.2
      refine this ?_ (by simp;omega)
      have h1:=(zgt S1).1
      have h2:=(zgt S2).1
      simp;omega
    · obtain⟨j,hj,rfl⟩:=List.getElem_of_mem hk
      rw[List.getElem_drop]
      simp at hj
      exact hoth _ (by omega) (by omega) (by omega)
 refine⟨(mid.fr.mono (fun _ _ h=>.inl h)).trans F18 (fun b hb e=>.inr (by rw[e];exact hcn)),c8,l.take a++l.drop (a+1),ks.take a++.node (.mem nj gj 0) (ks[a].l++(l[a]'(by omega))::ks[a+1].l) (ks[a].ks++ks[a+1].ks)::ks.drop (a+2),gone1,hag,?_,?_,?_,by simp;omega,hks0,fun y hy=>?_,by simp;omega,by simp;omega,?_,zgo ha (by omega) (by omega) hng hz hd1 hd2 mid.cnt,mid.len⟩
 · intro b hb
   rw[e8 b (fun e=>by have:=(h7 b e).2;omega)]
   exact cl5 b (by omega)
 · exact(mid.wk.ag e81).fr F18 (fun b e k=>hnq (by rw[←hc8n,←e];exact k))
 · refine⟨v7,_,_,_,b8,?_,ItemCells.append (hic.drop (a+1)) (hic.take a),?_,All2.append (All2.take a hkold) (.cons hj (All2.drop (a+2) hkold)),hc8n,fun b e=>⟨e87 b e,by have:=(h7 b e).1;omega⟩,fun b e=>?_⟩
   · have:=z0n (z0m o7 f8 (fun b e k=>by have:=(h7 b e).1;omega)) (B':=0) (fun _ _=>Nat.zero_le _)
     rw[show(l.take a++l.drop (a+1)).length=l.length-1 by simp;omega]
     exact this
   · have:=z0n (z0m (z0m o6 f7 (fun _ _ h=>h)) f8 (fun b e k=>by simp[Value.ownBlock] at e;omega)) (B':=0) (fun _ _=>Nat.zero_le _)
     rw[show(kvs.take a++vj::kvs.drop (a+2)).length=kvs.length-1 by simp;omega]
     exact this
   · simp[Value.ownBlock] at e
     subst e
     exact⟨hc8g,hg3n,fun e=>by have:=(h7 _ e).1;omega⟩
 · rcases List.mem_append.1 hy with hy|hy
   · exact hkv y (List.mem_of_mem_take hy)
   · exact hkv y (List.mem_of_mem_drop hy)
 · rw[List.map_append,List.map_cons,List.map_take,List.map_drop]
   refine zfk (by simpa using hlen) (by omega) ?_
   rw[zgw S1 S2,List.getElem_map,List.getElem_map]
theorem zh5 {G L0 kc lc m:Nat} {va vb kw vw:Value} (hq0:q≠0) (hn0:qn≠0) (hnn:qn≠rn) (hnq:qn≠q) (hc:Cl w c) (ha:a+1<ks.length) (mid:MendMid c c1 rn q w w1 pg N d ks[a] ks[a+1] lf rt wp tp gone gone1) (hcn:c n=qn) (hnl:n<w.heap.size)
 (b1:w1.heap[n]?=some (.cells #[.int .i64 0,.slice (some ⟨L0,0,none⟩) l.length lc,.slice (some ⟨G,0,none⟩) kvs.length kc] 198 (0,0))) (ol:w1.ownsRow 0 200 2 (.slice (some ⟨L0,0,none⟩) l.length lc) l.length xs) (ic:ItemCells (Dt c1) w1 xs l) (ok:w1.ownsRow 0 20 1 (.slice (some ⟨G,0,none⟩) kvs.length kc) kvs.length kvs) (ka:All2 (Rep c1 rn w1 pg N False (d+1)) ks kvs) (hcl:c1 L0=qn∧L0≠n) (hcg:c1 G=qn∧G≠n∧G≠L0)
 (S1:Shape (d+1) 1 ks[a]) (S2:Shape (d+1) 1 ks[a+1]) (hoth:∀j (h:j<ks.length),j≠a→j≠a+1→Shape (d+1) 2 ks[j]) (hlen:ks.length=l.length+1) (hkv:∀y∈l,KVok y) (hm1:2≤m) (hm2:m+3≤ks[a].l.length+1+ks[a+1].l.length) (hm3:ks[a].l.length+1+ks[a+1].l.length≤6) (hz:∀b o,w.heap.size≤b→sumN (ks.map (cnt (d+1) (.cl b o)))=0)
 (hd:1+sumN (ks[a].ks.map (dirtyN d))+sumN (ks[a+1].ks.map (dirtyN d))≤dirtyN (d+1) ks[a]+dirtyN (d+1) ks[a+1])
 (f3:Fr C0 w1 w3) (f5:Fr C0 w3 w5) (sh:Shared c1 rn w3 w5 pg N d m (ks[a].l++(l[a]'(by omega))::ks[a+1].l) (ks[a].ks++ks[a+1].ks) va vb kw vw c5)
 (f8:Fr (fun b=>b=G∨b=L0) w5 w8) (ok8:w8.ownsRow 0 20 1 (.slice (some ⟨G,0,none⟩) kvs.length kc) kvs.length ((kvs.set a va).set (a+1) vb)) (ol8:w8.ownsRow 0 200 2 (.slice (some ⟨L0,0,none⟩) l.length lc) l.length ((xs.set (a*2) kw).set (a*2+1) vw)) :
 MendRes c qn rn q w pg N (d+1) n l ks wp tp gone w8:=by
 have s1:=mid.fr.size
 have s3:=f3.size
 have s5:=f5.size
 have s8:=f8.size
 have hkl:=All2.length ka
 have hgl:=(ok.lt G rfl).2
 have hll:=(ol.lt L0 rfl).2
 have e5:∀b,b<w1.heap.size→c5 b=c1 b:=fun b hb=>sh.ag b (by omega)
 have hcn1:c1 n=qn:=(mid.ag n hnl).trans hcn
 have hold:∀b,b<w.heap.size→c1 b=qn→c b=qn:=fun b hb e=>(mid.ag b hb).symm.trans e
 have F15:Fr C0 w1 w5:=f3.trans0 f5
 have F18:Fr (fun b=>b=G∨b=L0) w1 w8:=(F15.mono (fun _ _ h=>h.elim)).trans f8 (fun _ _ h=>h)
 have hq58:∀b,(b=G∨b=L0)→c5 b=qn:=fun b e=>by
  rcases e with rfl|rfl
  · exact(e5 _ hgl).trans hcg.1
  · exact(e5 _ hll).trans hcl.1
 have hag:Ag w.heap.size c c5:=fun b hb=>(e5 b (by omega)).trans (mid.ag b hb)
 have hkold:All2 (Rep c5 rn w8 pg N False (d+1)) ks kvs:=ka.imp fun _ _ h=>Rep.fr F18 (fun b e k=>hnn ((hq58 b e).symm.trans k)) (fun b e k=>hn0 ((hq58 b e).symm.trans k)) (Rep.ag e5 h)
 obtain⟨na,nb,g,hna,hnb,hg,hne,hga,hgb,ra,rb⟩:=sh.ex
 have ra8:=Rep.fr f8 (fun b e k=>hnn ((hq58 b e).symm.trans k)) (fun b e k=>hn0 ((hq58 b e).symm.trans k)) ra
 have rb8:=Rep.fr f8 (fun b e k=>hnn ((hq58 b e).symm.trans k)) (fun b e k=>hn0 ((hq58 b e).symm.trans k)) rb
 obtain⟨y,hy,hyk,hyv⟩:=sh.mid
 have hic:ItemCells (Dt c5) w8 xs l:=((ic.mono (F':=fun b=>c1 b=0∧b<w1.heap.size) (fun b h hl=>⟨h,hl⟩)).fr F18 (fun b h e=>hn0 (by rw[←hq58 b e,e5 b h.2];exact h.1))).mono (fun b h _=>(e5 b h.2).trans h.1)
 have hyk8:=hyk.fr f8 (fun b h e=>hn0 ((hq58 b e).symm.trans h))
 have hyv8:=hyv.fr f8 (fun b h e=>hn0 ((hq58 b e).symm.trans h))
 have hLl:(ks[a].l++(l[a]'(by omega))::ks[a+1].l).length=ks[a].l.length+1+ks[a+1].l.length:=by simp;omega
 have hyk0:KVok y:=by
  have:y∈ks[a].l++(l[a]'(by omega))::ks[a+1].l:=List.mem_of_getElem? hy
  rcases List.mem_append.1 this with h|h
  · exact(zgt S1).2.2.1 y h
  · rcases List.mem_cons.1 h with rfl|h
    · exact hkv _ (List.getElem_mem _)
    · exact(zgt S2).2.2.1 y h
 have hcut:=zgy (x:=l[a]'(by omega)) (nm:=.mem na g 0) (m:=m) (k:=2) S1 S2 (hkv _ (List.getElem_mem _))
 have hcut2:=zgy (x:=l[a]'(by omega)) (nm:=.mem nb g (m+1)) (m:=m) (k:=2) S1 S2 (hkv _ (List.getElem_mem _))
 rw[hLl] at hcut hcut2
 have sa:=hcut.1 hm1 (by omega) (by omega)
 have sb:=hcut2.2.1 (by omega) (by omega)
 refine⟨(mid.fr.mono (fun _ _ h=>.inl h)).trans F18 (fun b hb e=>.inr (hold b hb ?_)),c5,l.set a y,_,gone1,hag,?_,(mid.wk.ag e5).fr F18 (fun b e k=>hnq ((hq58 b e).symm.trans k)),⟨_,_,_,_,F18.blk b1 (fun e=>by rcases e with e|e;exact hcg.2.1 e.symm;exact hcl.2 e.symm),?_,ItemCells.set hyk8 hyv8 a hic,?_,All2.set rb8 (a+1) (All2.set ra8 a hkold),(e5 n (by omega)).trans hcn1,fun b e=>?_,fun b e=>?_⟩,by simp;omega,fun k hk=>?_,fun z hz=>?_,by simp,by simp,?_,zgp ha (by omega) (by omega) (by omega) hne hga hgb hz hd mid.cnt,mid.len⟩
 · rcases e with rfl|rfl
   · exact hcg.1
   · exact hcl.1
 · exact Cl.mono sh.cl s8
 · rw[List.length_set];exact ol8
 · rw[List.length_set,List.length_set];exact ok8
 · simp[Value.ownBlock] at e
   subst e
   exact⟨(e5 _ hll).trans hcl.1,hcl.2⟩
 · simp[Value.ownBlock] at e
   subst e
   exact⟨(e5 _ hgl).trans hcg.1,hcg.2.1,fun e=>hcg.2.2 (by simp[Value.ownBlock] at e;exact e.symm)⟩
 · obtain⟨j,hj,rfl⟩:=List.getElem_of_mem hk
   rw[List.getElem_set]
   split
   · exact sb
   · rw[List.getElem_set]
     split
     · exact sa
     · exact hoth j (by simpa using hj) (by omega) (by omega)
 · rcases List.mem_or_eq_of_mem_set hz with h|rfl
   · exact hkv z h
   · exact hyk0
 · rw[List.map_set,List.map_set]
   refine zfl (by simpa using hlen) (by omega) ?_
   rw[zgx S1 S2 (by rw[hLl];omega) hy,List.getElem_map,List.getElem_map]
end
end Go.Proofs.YtidalepbkljkpaaGreat
