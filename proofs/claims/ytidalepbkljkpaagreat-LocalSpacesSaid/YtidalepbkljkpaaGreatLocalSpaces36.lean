import Derived.Test.YtidalepbkljkpaaGreatLocalSpaces35
set_option linter.all false
namespace Go.Proofs.YtidalepbkljkpaaGreat
open Go.RowKit Go.H
set_option maxHeartbeats 2000000
set_option maxRecDepth 100000
section
variable {c : Nat → Nat} {rn : Nat} {w : World} {pg : Nat → Option Bs} {N d : Nat}
theorem rep_leaf' {X:Prop} {n g o:Nat} {lv:Value} {l:List KV} (hb:w.heap[n]?=some (.cells #[.int .i64 0,lv] 223 (0,0))) (hi:ItemsAt (Dt c) w lv l) (hn:c n=rn):Rep c rn w pg N X 1 (.node (.mem n g o) l []) (wLeaf n):=
 ⟨[],⟨lv,z2k hb 0 rfl,z2k hb 1 rfl,hi,.inl ⟨rfl,rfl⟩⟩,hn,fun h=>absurd rfl h,.nil,⟨_,_,hb⟩,fun h=>absurd rfl h⟩
theorem zge {X:Prop}:∀{ks:List T} {kvs:List Value},All2 (Rep c rn w pg N X d) ks kvs→∀u∈kvs,u.oneCell'=true
 |_,_,.nil,u,h=>by simp at h
 | _, _, .cons h1 h2, u, h => by
   rcases List.mem_cons.1 h with rfl|h
   · obtain⟨tx,y,rfl⟩:=h1.iface;rfl
   · exact zge h2 u h
structure Pair2 (c:Nat→Nat) (rn:Nat) (w:World) (pg:Nat→Option Bs) (N d:Nat) (vl vr:Value) (l1 l2:List KV) (ks1 ks2:List T):Prop where
 left:∃n g o,Rep c rn w pg N False (d+1) (.node (.mem n g o) l1 ks1) vl
 right:∃n g o,Rep c rn w pg N False (d+1) (.node (.mem n g o) l2 ks2) vr
 k0:d=0→ks1=[]∧ks2=[]
 k1:¬d=0→ks1≠[]∧ks2≠[]
 len:l1.length≤10∧l2.length≤10∧ks1.length≤10∧ks2.length≤10
theorem Pair2.fr0 {vl vr:Value} {l1 l2:List KV} {ks1 ks2:List T} {w':World} (h:Pair2 c rn w pg N d vl vr l1 l2 ks1 ks2) (hf:Fr C0 w w'):Pair2 c rn w' pg N d vl vr l1 l2 ks1 ks2:=by
 obtain⟨⟨n1,g1,o1,a1⟩,⟨n2,g2,o2,a2⟩,a3,a4,a5⟩:=h
 exact⟨⟨n1,g1,o1,a1.fr0 hf⟩,⟨n2,g2,o2,a2.fr0 hf⟩,a3,a4,a5⟩
theorem Pair2.fr {C:Nat→Prop} {vl vr:Value} {l1 l2:List KV} {ks1 ks2:List T} {w':World} (h:Pair2 c rn w pg N d vl vr l1 l2 ks1 ks2) (hf:Fr C w w') (h1:∀b,C b→c b≠rn) (h2:∀b,C b→c b≠0):Pair2 c rn w' pg N d vl vr l1 l2 ks1 ks2:=by
 obtain⟨⟨n1,g1,o1,a1⟩,⟨n2,g2,o2,a2⟩,a3,a4,a5⟩:=h
 exact⟨⟨n1,g1,o1,Rep.fr hf h1 h2 a1⟩,⟨n2,g2,o2,Rep.fr hf h1 h2 a2⟩,a3,a4,a5⟩
theorem Pair2.ag {c':Nat→Nat} {vl vr:Value} {l1 l2:List KV} {ks1 ks2:List T} (h:Pair2 c rn w pg N d vl vr l1 l2 ks1 ks2) (ha:Ag w.heap.size c c'):Pair2 c' rn w pg N d vl vr l1 l2 ks1 ks2:=by
 obtain⟨⟨n1,g1,o1,a1⟩,⟨n2,g2,o2,a2⟩,a3,a4,a5⟩:=h
 exact⟨⟨n1,g1,o1,Rep.ag ha a1⟩,⟨n2,g2,o2,Rep.ag ha a2⟩,a3,a4,a5⟩
theorem zgf {vl vr kv vv:Value} {l1 l2:List KV} {ks1 ks2:List T} {x:KV} (h:Pair2 c rn w pg N d vl vr l1 l2 ks1 ks2) (hk:BytesAt (Dt c) w kv x.1) (hv:BytesAt (Dt c) w vv x.2) :
 Calls Tryz.prog 185 #[vl,.agg #[kv,vv],vr] w fun e w'=>Fr C0 w w'∧∃A cp kw,e=.returned (.tuple #[.slice A (l1.length+1+l2.length) cp,kw])∧∃xs,w'.ownsRow w.heap.size 200 2 (.slice A (l1.length+1+l2.length) cp) (l1.length+1+l2.length) xs∧ItemCells (fun b=>c b=0∧b<w.heap.size) w' xs (l1++x::l2)∧
  ((d=0∧kw=.slice none 0 0)∨(¬d=0∧∃g cp kvs,kw=.slice (some ⟨g,0,none⟩) kvs.length cp∧w'.ownsRow w.heap.size 20 1 kw kvs.length kvs∧All2 (Rep c rn w pg N False d) (ks1++ks2) kvs∧¬A=some ⟨g,0,none⟩)):=by
 obtain⟨⟨n1,g1,o1,kv1,a1,_,_,k1,_⟩,⟨n2,g2,o2,kv2,a2,_,_,k2,_⟩,h0,h1,hb⟩:=h
 have e1:=All2.length k1
 have e2:=All2.length k2
 have hz:∀{ks:List T} {kvs:List Value},ks.length=kvs.length→(ks=[]↔kvs=[]):=fun e=>by rw[←List.length_eq_zero_iff,←List.length_eq_zero_iff,e]
 have hd1:d=0↔kv1=[]:=⟨fun e=>(hz e1).1 (h0 e).1,fun e=>Classical.byContradiction fun k=>(h1 k).1 ((hz e1).2 e)⟩
 have hd2:d=0↔kv2=[]:=⟨fun e=>(hz e2).1 (h0 e).2,fun e=>Classical.byContradiction fun k=>(h1 k).2 ((hz e2).2 e)⟩
 have hm:∀b,Dt c b→b<w.heap.size→c b=0∧b<w.heap.size:=fun b h hl=>⟨h,hl⟩
 refine(zgd (a1.mono hm) (a2.mono hm) (hd1.symm.trans hd2) (zge k1) (zge k2) (hk.mono hm) (hv.mono hm) ⟨hb.1,hb.2.1,by omega,by omega⟩).mono ?_
 rintro e w' ⟨f,lv,kw,rfl,xs,ow,ic,hh⟩
 obtain⟨A,cp,rfl,-⟩:=z0o ow
 refine⟨f,A,cp,kw,rfl,xs,ow,ic,?_⟩
 rcases hh with⟨e,rfl⟩|⟨e,ok,hne⟩
 · exact .inl ⟨hd1.2 e,rfl⟩
 · obtain⟨B,cq,rfl,hB⟩:=z0o ok
   have hl:(kv1++kv2).length=kv1.length+kv2.length:=List.length_append
   cases B with
   | none =>
     rcases ok.2 with⟨e',h0⟩|⟨g,cap,cur,e',_⟩
     · exact absurd (List.append_eq_nil_iff.1 (List.length_eq_zero_iff.1 (by rw[hl];exact h0))).1 e
     · cases e'
   | some a =>
     obtain⟨g,rfl⟩:=hB a rfl
     exact .inr ⟨fun k=>e (hd1.1 k),g,cq,kv1++kv2,by rw[hl],by rw[hl];exact ok,All2.append k1 k2,fun k=>hne g rfl (by rw[k];rfl)⟩
theorem zgg {vl vr kv vv:Value} {l1 l2:List KV} {ks1 ks2:List T} {x:KV} (hc:Cl w c) (h0:rn≠0) (h:Pair2 c rn w pg N d vl vr l1 l2 ks1 ks2) (hk:BytesAt (Dt c) w kv x.1) (hv:BytesAt (Dt c) w vv x.2) :
 Calls Tryz.prog 179 #[vl,.agg #[kv,vv],vr] w fun e w'=>Fr C0 w w'∧∃tx y,e=.returned (.iface tx y)∧∃n g c',Ag w.heap.size c c'∧Cl w' c'∧w.heap.size≤n∧w.heap.size≤g∧g≠n∧Rep c' rn w' pg N False (d+1) (.node (.mem n g 0) (l1++x::l2) (ks1++ks2)) (.iface tx y):=by
 have HA:=zhd (fun (w_:World) (hf:Fr C0 w w_)=>zgf (h.fr0 hf) (hk.fr0 hf) (hv.fr0 hf))
 have HD:=zhd (h.k0)
 have HD1:=zhd (h.k1)
 have HC:=zhd hc
 have HR0:=zhd h0
 obtain⟨kA,kc,rfl,-⟩:=hk.form
 obtain⟨vA,vc,rfl,-⟩:=hv.form
 obtain⟨⟨n1,g1,o1,r1⟩,⟨n2,g2,o2,r2⟩,_,_,_⟩:=h
 obtain⟨tx1,y1,rfl⟩:=r1.iface
 obtain⟨tx2,y2,rfl⟩:=r2.iface
 have F0:=zhd ((Fr.refl C0 w).alloc (.cells #[.slice kA x.1.length kc,.slice vA x.2.length vc] 200))
 have hbx:=heap_alloc_new w (.cells #[.slice kA x.1.length kc,.slice vA x.2.length vc] 200)
 have x0:=z2k hbx 0 rfl
 have x1:=z2k hbx 1 rfl
 clear r1 r2 hk hv hbx hc h0
 go_enter Tryz.func179,Tryz.ntmps179
 go_wp2_with fail
 refine(HA.out _ F0.out).mono ?_
 rintro e w1 ⟨f1,A,cp,kw,rfl,xs,ow,ic,hh⟩
 have F1:=zhd (F0.out.trans0 f1)
 have F1b:=zhd f1
 have OW:=zhd ow
 have IC:=zhd ic
 have hs1:=F1.out.size
 have hsw:w.heap.size+1≤w1.heap.size:=by have:=f1.size;simpa using this
 clear ow ic f1 x0 x1
 rcases hh with⟨hd,rfl⟩|⟨hd,g,cq,kvs,rfl,ok,ka,hne⟩
 · have HDD:=zhd hd
   clear hd
   go_wp2_with fail
   refine(zgb _ w1 ⟨_,_,_,rfl⟩).mono ?_
   rintro e w2 ⟨rfl,rfl⟩
   go_wp2
   go_ret
   have F2:=F1.out.alloc (.cells #[.int .i64 0,.slice A (l1.length+1+l2.length) cp] 223)
   have hk:=HD.out HDD.out
   rw[hk.1,hk.2,HDD.out]
   refine⟨F2,_,_,rfl,w1.heap.size,w1.heap.size+1,ownN c [w1.heap.size] rn,z8o (Ag.refl _ _) (fun b hb=>by simp at hb;omega),z8p (HC.out.mono F2.size) (fun b hb=>by simp at hb;simp;omega),hs1,by omega,by omega,rep_leaf' (heap_alloc_new _ _) (ItemsAt.ofCells (xs:=xs) ?_ ?_) (z8m (by simp))⟩
   · rw[show(l1++x::l2).length=l1.length+1+l2.length by simp;omega]
     exact Row.ofOwn (z0m OW.out ((Fr.refl C0 w1).alloc _) (fun _ _ h=>h)) (fun b e=>by show ownN c _ rn b=0;rw[z8n (by have:=(OW.out.lt b e).2;simp;omega)];exact HC.out b (by have:=(OW.out.lt b e).1;simp at this;omega))
   · exact(IC.out.mono (F':=Dt (ownN c [w1.heap.size] rn)) (fun b e hl=>by show ownN c _ rn b=0;have:=e.2;rw[z8n (by simp at this⊢;omega)];exact e.1)).fr0 ((Fr.refl C0 w1).alloc _)
 · have HNE:=zhd hne
   have OKK:=zhd ok
   have HDD:=zhd hd
   have KA:=zhd ka
   clear ok ka hne hd
   go_wp2_with fail
   refine(zgc _ _ w1 ⟨_,_,_,rfl⟩ ⟨_,_,_,rfl⟩).mono ?_
   rintro e w2 ⟨rfl,rfl⟩
   go_wp2
   go_ret
   have F2:=F1.out.alloc (.cells #[.int .i64 0,.slice A (l1.length+1+l2.length) cp,.slice (some ⟨g,0,none⟩) kvs.length cq] 198)
   have FA:=(Fr.refl C0 w1).alloc (.cells #[.int .i64 0,.slice A (l1.length+1+l2.length) cp,.slice (some ⟨g,0,none⟩) kvs.length cq] 198)
   have hgl:=OKK.out.lt g rfl
   have hg1:w.heap.size≤g:=by have:=hgl.1;simp at this;omega
   have hx:∀b,b<w.heap.size→b∉[w1.heap.size,g]:=fun b hb=>by simp;omega
   have hkr:=z0m OKK.out FA (fun _ _ h=>h)
   obtain⟨_,_,hek,hkc1,hkc2⟩:=(Row.ofOwn hkr (F:=fun _=>True) (fun _ _=>trivial)).form
   injection hek with _ _ hek
   subst hek
   have hk0:kvs≠[]:=by
    rintro rfl
    have:=All2.length KA.out
    exact(HD1.out HDD.out).1 (List.append_eq_nil_iff.1 (List.length_eq_zero_iff.1 this)).1
   refine⟨F2,_,_,rfl,w1.heap.size,g,ownN c [w1.heap.size,g] rn,z8o (Ag.refl _ _) (fun b hb=>by simp at hb;omega),z8p (HC.out.mono F2.size) (fun b hb=>by simp at hb;simp;omega),hs1,hg1,by omega,z8s (heap_alloc_new _ _) (ItemsAt.ofCells (xs:=xs) ?_ ?_) (z8m (by simp)) (z8m (by simp)) hk0 hkc1 hkc2 (fun j u hj=>by have:=hkr.cells (g:=g) rfl j u hj;rw[add0] at this;rwa [Nat.zero_add]) (KA.out.imp fun _ _ h=>?_) (z8q hkr rfl)⟩
   · rw[show(l1++x::l2).length=l1.length+1+l2.length by simp;omega]
     exact Row.ofOwn (z0m OW.out FA (fun _ _ h=>h)) (fun b e=>by
      show ownN c _ rn b=0
      have hb:=OW.out.lt b e
      rw[z8n (fun hm=>by
       rcases(by simpa using hm:b=w1.heap.size∨b=g) with k|k
       · omega
       · subst k
         obtain⟨_,_,h1,hA⟩:=z0o OW.out
         injection h1 with h1
         cases A with
         |none=>simp[Value.ownBlock] at e
         | some a =>
           obtain⟨g',rfl⟩:=hA a h1.symm
           simp[Value.ownBlock] at e
           subst e
           exact HNE.out rfl)]
      exact HC.out b (by have:=hb.1;simp at this;omega))
   · exact(IC.out.mono (F':=Dt (ownN c [w1.heap.size,g] rn)) (fun b e hl=>by
      show ownN c _ rn b=0
      have:=e.2
      have h1:=hgl.1
      rw[z8n (by simp at this h1⊢;omega)]
      exact e.1)).fr0 FA
   · exact Rep.fr0 (Rep.fr0 (Rep.ag (fun b hb=>by rw[z8n (by have h1:=hgl.1;simp at hb h1⊢;omega)]) h) F1b.out) FA
end
section
variable {c : Nat → Nat} {rn : Nat} {w : World} {pg : Nat → Option Bs} {N d : Nat}
theorem zgh {P:Program} {fn:Func} {R:Ending→World→Prop} {p s u:Tmp} {ty:TypeId} (h:fn.results=#[.tmp s,.cell p ty,.tmp u]) {a:Act} {w:World} {g:Nat} {cs:Array Value} {d:TypeDesc} {tt:TypeId} {fr:Nat×Nat}
 (hp:a.tmps.getD p undef=.pointer (some ⟨g,0,none⟩)) (hg:w.heap[g]?=some (.cells cs tt fr)) (hu:P.underlying ty=some d) (hd:(match d with|.struct _|.array _ _=>true|_=>false)=true) (hi:(P.info? ty).map (·.size)=some cs.size)
 (hdef:a.defers=[]) (hR:R (.returned (.tuple #[a.tmps.getD s undef,.agg cs,a.tmps.getD u undef])) w):bodyPost P fn R .ret a w:=by
 refine bodyPost_ret_by (v:=.tuple #[a.tmps.getD s undef,.agg cs,a.tmps.getD u undef]) ?_ hdef hR
 simp only[results,h]
 have hp':a.tmps[p]?.getD undef=.pointer (some ⟨g,0,none⟩):=by simpa using hp
 simp[Sem.run_bind,Result.andThen,hp',asAddr,run_loadVar_row w g tt ty cs fr d hg hu hd hi]
structure Shared (c:Nat→Nat) (rn:Nat) (w0 w:World) (pg:Nat→Option Bs) (N d m:Nat) (L:List KV) (K:List T) (va vb kw vw:Value) (c':Nat→Nat):Prop where
 ag:Ag w0.heap.size c c'
 cl:Cl w c'
 ex:∃na nb g,w0.heap.size≤na∧w0.heap.size≤nb∧w0.heap.size≤g∧na≠nb∧g≠na∧g≠nb∧Rep c' rn w pg N False (d+1) (.node (.mem na g 0) (L.take m) (K.take (m+1))) va∧Rep c' rn w pg N False (d+1) (.node (.mem nb g (m+1)) (L.drop (m+1)) (K.drop (m+1))) vb
 mid:∃y,L[m]?=some y∧BytesAt (Dt c') w kw y.1∧BytesAt (Dt c') w vw y.2
theorem zgi {c c':Nat→Nat} {w:World} {v:Value} {l:Bs} (h:BytesAt (Dt c) w v l) (ha:Ag w.heap.size c c'):BytesAt (Dt c') w v l:=h.mono (fun b hb hl=>(ha b hl).trans hb)
theorem zgj {F G:Nat→Prop} {w:World} {a M cp m:Nat} {xs:List Value} {L:List KV} (o:Row G w (.slice (some ⟨a,0,none⟩) M cp) M 2 xs) (ic:ItemCells F w xs L) (hL:L.length=M) (hF:∀b,F b→G b) (hm:m+1<M) (hcp:¬cp=m+1):ItemsAt G w (.slice (some ⟨a,0,none⟩) m m) (L.take m)∧ItemsAt G w (.slice (some ⟨a,(m+1)*2,none⟩) (M-(m+1)) (cp-(m+1))) (L.drop (m+1)):=by
 have hml:m≤maxLen:=by
  obtain⟨_,_,e,h1,h2,_⟩:=o
  injection e with e1 e2 e3
  subst e3
  omega
 have ic':=ic.mono (F':=G) (fun b h _=>hF b h)
 have r1:=(o.take (i:=m) (by omega)).cap (Nat.le_refl _) hml
 have r2:=o.drop (i:=m+1) (by omega)
 rw[if_neg hcp] at r2
 have e:(some (⟨a,0,none⟩:Addr)).map (·.add ((m+1)*2))=some ⟨a,(m+1)*2,none⟩:=by simp[Addr.add]
 rw[e] at r2
 exact⟨ItemsAt.ofCells (by rw[List.length_take,hL,Nat.min_eq_left (by omega)];exact r1) (ic'.take m),ItemsAt.ofCells (by rw[List.length_drop,hL];exact r2) (ic'.drop (m+1))⟩
theorem zgk {vl vr kv vv:Value} {l1 l2:List KV} {ks1 ks2:List T} {x:KV} {m:Nat} (hc:Cl w c) (h0:rn≠0) (h:Pair2 c rn w pg N d vl vr l1 l2 ks1 ks2) (hk:BytesAt (Dt c) w kv x.1) (hv:BytesAt (Dt c) w vv x.2) (hm:m+1<l1.length+1+l2.length) (hkl:¬d=0→(ks1++ks2).length=l1.length+1+l2.length+1) :
 Calls Tryz.prog 180 #[vl,.agg #[kv,vv],vr,.int .i64 (m:Int)] w fun e w'=>Fr C0 w w'∧∃ta ya kA kn kc vA vn vc tb yb,e=.returned (.tuple #[.iface ta ya,.agg #[.slice kA kn kc,.slice vA vn vc],.iface tb yb])∧∃c',Shared c rn w w' pg N d m (l1++x::l2) (ks1++ks2) (.iface ta ya) (.iface tb yb) (.slice kA kn kc) (.slice vA vn vc) c':=by
 obtain⟨c0,hc0⟩:∃c0,c0=ownN c [w.heap.size,w.heap.size+1] (rn+1):=⟨_,rfl⟩
 have hag0:Ag w.heap.size c c0:=by rw[hc0];exact z8o (Ag.refl _ _) (fun b hb=>by simp at hb;omega)
 have HA:=zhd (fun (w_:World) (hf:Fr C0 w w_)=>zgf ((h.ag hag0).fr0 hf) ((zgi hk hag0).fr0 hf) ((zgi hv hag0).fr0 hf))
 have HAG0:=zhd hag0
 have HQ:Hid (c0 w.heap.size=rn+1∧c0 (w.heap.size+1)=rn+1∧∀b,w.heap.size+2≤b→c0 b=0):=zhd ⟨by rw[hc0];exact z8m (by simp),by rw[hc0];exact z8m (by simp),fun b hb=>by rw[hc0,z8n (by simp;omega)];exact hc b (by omega)⟩
 clear hc0 hag0
 have HD:=zhd (h.k0)
 have HD1:=zhd (h.k1)
 have HKL:=zhd hkl
 have HC:=zhd hc
 have HR0:=zhd h0
 have hlen:=h.len
 obtain⟨kA,kc,rfl,-⟩:=hk.form
 obtain⟨vA,vc,rfl,-⟩:=hv.form
 obtain⟨⟨n1,g1,o1,r1⟩,⟨n2,g2,o2,r2⟩,_,_,_⟩:=h
 obtain⟨tx1,y1,rfl⟩:=r1.iface
 obtain⟨tx2,y2,rfl⟩:=r2.iface
 have F0:=zhd (((Fr.refl C0 w).alloc (.cells #[.slice kA x.1.length kc,.slice vA x.2.length vc] 200)).alloc (.cells #[.slice none 0 0,.slice none 0 0] 200))
 have hbx:((w.alloc (.cells #[.slice kA x.1.length kc,.slice vA x.2.length vc] 200)).alloc (.cells #[.slice none 0 0,.slice none 0 0] 200)).heap[w.heap.size]?=some (.cells #[.slice kA x.1.length kc,.slice vA x.2.length vc] 200 (0,0)):=((Fr.refl C0 _).alloc _).blk (heap_alloc_new w _) (fun h=>h)
 have hbu:((w.alloc (.cells #[.slice kA x.1.length kc,.slice vA x.2.length vc] 200)).alloc (.cells #[.slice none 0 0,.slice none 0 0] 200)).heap[w.heap.size+1]?=some (.cells #[.slice none 0 0,.slice none 0 0] 200 (0,0)):=by
  have:=heap_alloc_new (w.alloc (.cells #[.slice kA x.1.length kc,.slice vA x.2.length vc] 200)) (.cells #[.slice none 0 0,.slice none 0 0] 200)
  rwa [show(w.alloc (.cells #[.slice kA x.1.length kc,.slice vA x.2.length vc] 200)).heap.size=w.heap.size+1 by simp] at this
 have HBU:=zhd hbu
 have x0:=z2k hbx 0 rfl
 have x1:=z2k hbx 1 rfl
 clear r1 r2 hk hv hbx hbu hc h0 hkl
 have hM20:l1.length+1+l2.length≤21:=by omega
 generalize hM:l1.length+1+l2.length=M at *
 have HM:=zhd hM
 clear hM hlen
 have hmi:(m:Int)<(M:Int):=by omega
 have hmi1:(m:Int)+1≤(M:Int):=by omega
 have hmi0:0≤(m:Int)+1:=by omega
 have hwr:IntKind.i64.wrap ((m:Int)+1)=((m+1:Nat):Int):=by rw[z0t _ (by omega) (by omega)];rfl
 go_enter Tryz.func180,Tryz.ntmps180
 go_wp2_with fail
 refine(HA.out _ F0.out).mono ?_
 rintro e w1 ⟨f1,A,cp,kw,rfl,xs,ow,ic,hh⟩
 have F1:=zhd (F0.out.trans0 f1)
 have F1b:=zhd f1
 have hbu1:=f1.blk HBU.out (fun h=>h)
 have OW:=zhd ow
 have IC:=zhd ic
 have hs1:=F1.out.size
 have hsw:w.heap.size+2≤w1.heap.size:=by have:=f1.size;simpa using this
 have HICL:Hid (xs.length=M*2):=zhd ow.1
 obtain⟨a,rfl⟩:∃a,A=some ⟨a,0,none⟩:=by
  obtain⟨_,_,h1,hA⟩:=z0o ow
  injection h1 with h1
  cases A with
  | none =>
    rcases ow.2 with⟨e',h0⟩|⟨g,cap,cur,e',_⟩
    · omega
    · cases e'
  | some a =>
    obtain⟨g',rfl⟩:=hA a h1.symm
    exact⟨g',rfl⟩
 obtain⟨hal1,hal2⟩:=ow.lt a rfl
 have hal:w.heap.size+2≤a:=by simpa using hal1
 have hane:¬a=w.heap.size+1:=by omega
 obtain⟨_,_,he,hcp1,hcp2⟩:=(Row.ofOwn ow (F:=fun _=>True) (fun _ _=>trivial)).form
 injection he with he1 _ he
 subst he1
 subst he
 unfold maxLen at hcp2
 have hcpm:¬cp=m+1:=by omega
 have hcpm2:m≤cp:=by omega
 have hi2:m*2<xs.length:=by have:=HICL.out;omega
 have hi3:m*2+1<xs.length:=by have:=HICL.out;omega
 have z0:=ow.cells (g:=a) rfl (m*2) _ (List.getElem?_eq_getElem hi2)
 have z1:=ow.cells (g:=a) rfl (m*2+1) _ (List.getElem?_eq_getElem hi3)
 rw[add0] at z0 z1
 have hyL:m<(l1++x::l2).length:=by have:=HM.out;simp;omega
 obtain⟨mk,mv,e1,e2,bk,bv⟩:=ic.at_ m hyL
 have HY:=zhd (List.getElem?_eq_getElem hyL)
 generalize (l1++x::l2)[m]=y at bk bv HY
 clear hyL
 rw[List.getElem?_eq_getElem hi2] at e1
 rw[List.getElem?_eq_getElem hi3] at e2
 injection e1 with e1
 injection e2 with e2
 rw[e1] at z0
 rw[e2] at z1
 obtain⟨mA,mc,rfl,-⟩:=bk.form
 obtain⟨mB,me,rfl,-⟩:=bv.form
 have HBK:=zhd bk
 have HBV:=zhd bv
 clear ow ic f1 x0 x1 e1 e2 bk bv
 have u0:=z2k hbu1 0 rfl
 have u1:=z2k hbu1 1 rfl
 have zu0:=z2i 0 hbu1
 have zu1:=z2i 1 hbu1
 have HBU1:=zhd hbu1
 clear hbu1
 rcases hh with⟨hd,rfl⟩|⟨hd,g,cq,kvs,rfl,ok,ka,hne⟩
 · have HDD:=zhd hd
   have heq:=zg9 w1
   clear hd
   go_wp2_with fail
   refine z1z (Fr (fun b=>b=w.heap.size+1) w1) [] (by kernel_rfl) ?_
   have hSw0:(Fr (fun b=>b=w.heap.size+1) w1) _:=(Fr.refl _ w1).drew
   refine tk 0 hSw0 ?_
   refine tk 1 hSw0 ?_
   refine tk 2 hSw0 ?_
   refine tk 3 hSw0 ?_
   refine tk 5 hSw0 ?_
   refine tk 6 hSw0 ?_
   refine tk 7 hSw0 ?_
   refine tk 8 hSw0 ?_ (hy:=by intro w_ hS_;have e0:=hS_.cell z0 hane;have e1:=hS_.cell z1 hane;first|(go_simp;done)|(go_simp;with_reducible rfl))
   refine tk 9 hSw0 ?_
   refine tk 10 hSw0 ?_
   refine tk 11 hSw0 ?_
   refine tk 12 hSw0 ?_
   refine one_ 4 rfl (fun K hK=>?_)
   go_simp
   refine(zgb _ _ ⟨_,_,_,rfl⟩).mono ?_
   rintro e w2 ⟨rfl,hw2⟩
   have B2:Hid (w2.heap[w1.heap.size]?=some (.cells #[.int .i64 0,.slice (some ⟨a,0,none⟩) m m] 223 (0,0))):=zhd (by rw[←hw2];exact heap_alloc_new w1 _)
   have F2:=zhd (show Fr C0 w1 w2 by rw[←hw2];exact((Fr.refl C0 w1).drew.alloc _))
   have HSZ2:=zhd (show w2.heap.size=w1.heap.size+1 by rw[←hw2];simp)
   clear hw2
   simp only[]
   refine hK.out _ _ ?kS1 (fun hSw1=>?kR1)
   case kS1=>exact F2.out.mono (fun _ _ h=>h.elim)
   clear hK K
   try simp only[Act.put,zs1,zs2,zs3]
   refine one_ 13 rfl (fun K hK=>?_)
   go_simp
   refine(zgb _ _ ⟨_,_,_,rfl⟩).mono ?_
   rintro e w3 ⟨rfl,hw3⟩
   have B3:Hid (w3.heap[w2.heap.size]?=some (.cells #[.int .i64 0,.slice (some ⟨a,(m+1)*2,none⟩) (M-(m+1)) (cp-(m+1))] 223 (0,0))):=zhd (by rw[←hw3];exact heap_alloc_new w2 _)
   have F3:=zhd (show Fr C0 w1 w3 by rw[←hw3];exact(F2.out.alloc _))
   have F23:Fr C0 w2 w3:=by rw[←hw3];exact(Fr.refl C0 w2).alloc _
   have B23:=zhd (F23.blk B2.out (fun h=>h))
   have HSZ3:=zhd (show w3.heap.size=w1.heap.size+2 by rw[←hw3];have:=HSZ2.out;simp[this])
   clear hw3 F23
   have v0:=F3.out.cell0 u0
   have v1:=F3.out.cell0 u1
   have zv0:=z2i 0 (F3.out.blk HBU1.out (fun h=>h))
   have zv1:=z2i 1 (F3.out.blk HBU1.out (fun h=>h))
   simp only[]
   refine hK.out _ _ ?kS2 (fun hSw2=>?kR2)
   case kS2=>exact F3.out.mono (fun _ _ h=>h.elim)
   clear hK K
   try simp only[Act.put,zs1,zs2,zs3]
   refine tk 14 hSw2 ?_
   refine one_ 15 rfl (fun K hK=>?_)
   go_simp
   refine hK.out _ _ ?kS3 (fun hSw3=>?kR3)
   case kS3=>exact((F3.out.mono (C2:=fun b=>b=w.heap.size+1) (fun _ _ h=>h.elim)).setCell (p:=⟨w.heap.size+1,0,none⟩) (.inr rfl) _).setCell (p:=⟨w.heap.size+1,1,none⟩) (.inr rfl) _
   clear hK K
   try simp only[Act.put,zs1,zs2,zs3]
   refine tk 16 hSw3 ?_
   refine z1y (by kernel_rfl) ?_ _
   go_wp2_with fail
   refine zgh (p:=9) (g:=w.heap.size+1) rfl rfl (z2j (i:=1) (z2j (i:=0) (F3.out.blk HBU1.out (fun h=>h)) _) _) Tryz.underlying200 rfl (by kernel_rfl) rfl ?_
   have hF:=((F3.out.mono (C2:=fun b=>b=w.heap.size+1) (fun _ _ h=>h.elim)).setCell (p:=⟨w.heap.size+1,0,none⟩) (.inr rfl) (.slice mA y.1.length mc)).setCell (p:=⟨w.heap.size+1,1,none⟩) (.inr rfl) (.slice mB y.2.length me)
   have hF3:=((Fr.refl (fun b=>b=w.heap.size+1) w3).setCell (p:=⟨w.heap.size+1,0,none⟩) (.inr rfl) (.slice mA y.1.length mc)).setCell (p:=⟨w.heap.size+1,1,none⟩) (.inr rfl) (.slice mB y.2.length me)
   have hsf:=hF3.size
   have hz3:=HSZ3.out
   have hz2:=HSZ2.out
   have hq:=HQ.out
   have hns:∀b,b∈[w1.heap.size,w2.heap.size]↔b=w1.heap.size∨b=w2.heap.size:=fun b=>by simp
   have hdt:∀b,(c0 b=0∧b<w1.heap.size)→Dt (ownN c0 [w1.heap.size,w2.heap.size] rn) b:=fun b h=>by
    show ownN c0 _ rn b=0
    rw[z8n (fun hm=>by rw[hns] at hm;omega)];exact h.1
   have hnd:∀b,(c0 b=0∧b<w1.heap.size)→¬b=w.heap.size+1:=fun b h e=>by rw[e,hq.2.1] at h;omega
   have hic:ItemCells (fun b=>c0 b=0∧b<w1.heap.size) w1 xs (l1++x::l2):=IC.out.mono fun b h hl=>⟨h.1,hl⟩
   have hro:Row (fun b=>c0 b=0∧b<w1.heap.size) w1 (.slice (some ⟨a,0,none⟩) M cp) M 2 xs:=Row.ofOwn OW.out (fun b e=>by simp[Value.ownBlock] at e;subst e;exact⟨hq.2.2 _ hal,hal2⟩)
   obtain⟨i1,i2⟩:=zgj (hro.mono (F':=Dt (ownN c0 [w1.heap.size,w2.heap.size] rn)) (fun b h _=>hdt b h)) hic (by have:=HM.out;simp;omega) hdt hm hcpm
   have hfd:∀{v:Value} {z:Bs},BytesAt (fun b=>c0 b=0∧b<w1.heap.size) w1 v z→BytesAt (Dt (ownN c0 [w1.heap.size,w2.heap.size] rn)) _ v z:=fun h=>(h.fr hF hnd).mono (fun b h _=>hdt b h)
   have hni:∀b,(Dt (ownN c0 [w1.heap.size,w2.heap.size] rn) b∧b<w1.heap.size)→¬b=w.heap.size+1:=fun b h e=>by
    have:=h.1
    unfold Dt at this
    rw[z8n (fun hm=>by rw[hns] at hm;omega),e,hq.2.1] at this
    omega
   have ii:∀{v:Value} {z:List KV},ItemsAt (Dt (ownN c0 [w1.heap.size,w2.heap.size] rn)) w1 v z→ItemsAt (Dt (ownN c0 [w1.heap.size,w2.heap.size] rn)) _ v z:=fun h=>((h.mono (F':=fun b=>Dt (ownN c0 [w1.heap.size,w2.heap.size] rn) b∧b<w1.heap.size) (fun b h hl=>⟨h,hl⟩)).fr hF hni).mono (fun b h _=>h.1)
   have hk:=HD.out HDD.out
   rw[hk.1,hk.2,HDD.out]
   refine⟨F1.out.trans hF (fun b hb e=>by omega),_,_,_,_,_,_,_,_,_,_,rfl,ownN c0 [w1.heap.size,w2.heap.size] rn,⟨z8o HAG0.out (fun b hb=>by rw[hns] at hb;omega),fun b hb=>?_,⟨w1.heap.size,w2.heap.size,w2.heap.size+1,by omega,by omega,by omega,by omega,by omega,by omega,rep_leaf' (hF3.blk B23.out (by omega)) (ii i1) (z8m (by simp)),rep_leaf' (hF3.blk B3.out (by omega)) (ii i2) (z8m (by simp))⟩,y,HY.out,hfd (HBK.out.mono (fun b h hl=>⟨h.1,hl⟩)),hfd (HBV.out.mono (fun b h hl=>⟨h.1,hl⟩))⟩⟩
   show ownN c0 _ rn b=0
   rw[z8n (fun hm=>by rw[hns] at hm;omega)]
   exact hq.2.2 b (by omega)
 · have HDD:=zhd hd
   have OKK:=zhd ok
   have KA:=zhd ka
   have heq:=zga ⟨g,0,none⟩ kvs.length cq w1
   have hkv:kvs.length=M+1:=by rw[←All2.length ka];exact HKL.out hd
   obtain⟨hg1,hg2⟩:=ok.lt g rfl
   have hg:w.heap.size+2≤g:=by simpa using hg1
   have hga:a≠g:=fun e=>hne (by rw[e])
   obtain⟨_,_,he,hcq1,hcq2⟩:=(Row.ofOwn ok (F:=fun _=>True) (fun _ _=>trivial)).form
   injection he with he1 _ he
   subst he
   unfold maxLen at hcq2
   have hcqm:¬cq=m+1:=by omega
   have hcqm1:(m:Int)+1≤(kvs.length:Int):=by omega
   have hcqm2:(m:Int)+1≤(cq:Int):=by omega
   have HKV:=zhd hkv
   have HHE:=zhd (And.intro hg1 hne)
   clear hd ok ka hkv he1 hg1 hne
   go_wp2_with fail
   refine z1z (Fr (fun b=>b=w.heap.size+1) w1) [] (by kernel_rfl) ?_
   have hSw0:(Fr (fun b=>b=w.heap.size+1) w1) _:=(Fr.refl _ w1).drew
   refine tk 0 hSw0 ?_
   refine tk 1 hSw0 ?_
   refine tk 2 hSw0 ?_
   refine tk 3 hSw0 ?_
   refine tk 4 hSw0 ?_
   refine tk 5 hSw0 ?_
   refine tk 6 hSw0 ?_
   refine tk 7 hSw0 ?_
   refine tk 8 hSw0 ?_
   refine tk 9 hSw0 ?_
   refine tk 11 hSw0 ?_
   refine tk 12 hSw0 ?_
   refine tk 13 hSw0 ?_
   refine tk 14 hSw0 ?_ (hy:=by intro w_ hS_;have e0:=hS_.cell z0 hane;have e1:=hS_.cell z1 hane;first|(go_simp;done)|(go_simp;with_reducible rfl))
   refine tk 15 hSw0 ?_
   refine tk 16 hSw0 ?_
   refine tk 17 hSw0 ?_
   refine tk 18 hSw0 ?_
   refine tk 19 hSw0 ?_
   refine tk 20 hSw0 ?_
   refine tk 21 hSw0 ?_
   refine tk 22 hSw0 ?_
   refine one_ 10 rfl (fun K hK=>?_)
   go_simp
   refine(zgc _ _ _ ⟨_,_,_,rfl⟩ ⟨_,_,_,rfl⟩).mono ?_
   rintro e w2 ⟨rfl,hw2⟩
   have B2:Hid (w2.heap[w1.heap.size]?=some (.cells #[.int .i64 0,.slice (some ⟨a,0,none⟩) m m,.slice (some ⟨g,0,none⟩) (m+1) (m+1)] 198 (0,0))):=zhd (by rw[←hw2];exact heap_alloc_new w1 _)
   have F2:=zhd (show Fr C0 w1 w2 by rw[←hw2];exact((Fr.refl C0 w1).drew.alloc _))
   have HSZ2:=zhd (show w2.heap.size=w1.heap.size+1 by rw[←hw2];simp)
   clear hw2
   simp only[]
   refine hK.out _ _ ?kS4 (fun hSw1=>?kR4)
   case kS4=>exact F2.out.mono (fun _ _ h=>h.elim)
   clear hK K
   try simp only[Act.put,zs1,zs2,zs3]
   refine one_ 23 rfl (fun K hK=>?_)
   go_simp
   refine(zgc _ _ _ ⟨_,_,_,rfl⟩ ⟨_,_,_,rfl⟩).mono ?_
   rintro e w3 ⟨rfl,hw3⟩
   have B3:Hid (w3.heap[w2.heap.size]?=some (.cells #[.int .i64 0,.slice (some ⟨a,(m+1)*2,none⟩) (M-(m+1)) (cp-(m+1)),.slice (some ⟨g,m+1,none⟩) (kvs.length-(m+1)) (cq-(m+1))] 198 (0,0))):=zhd (by rw[←hw3];exact heap_alloc_new w2 _)
   have F3:=zhd (show Fr C0 w1 w3 by rw[←hw3];exact(F2.out.alloc _))
   have F23:Fr C0 w2 w3:=by rw[←hw3];exact(Fr.refl C0 w2).alloc _
   have B23:=zhd (F23.blk B2.out (fun h=>h))
   have HSZ3:=zhd (show w3.heap.size=w1.heap.size+2 by rw[←hw3];have:=HSZ2.out;simp[this])
   clear hw3 F23
   have v0:=F3.out.cell0 u0
   have v1:=F3.out.cell0 u1
   have zv0:=z2i 0 (F3.out.blk HBU1.out (fun h=>h))
   have zv1:=z2i 1 (F3.out.blk HBU1.out (fun h=>h))
   simp only[]
   refine hK.out _ _ ?kS5 (fun hSw2=>?kR5)
   case kS5=>exact F3.out.mono (fun _ _ h=>h.elim)
   clear hK K
   try simp only[Act.put,zs1,zs2,zs3]
   refine tk 24 hSw2 ?_
   refine one_ 25 rfl (fun K hK=>?_)
   go_simp
   refine hK.out _ _ ?kS6 (fun hSw3=>?kR6)
   case kS6=>exact((F3.out.mono (C2:=fun b=>b=w.heap.size+1) (fun _ _ h=>h.elim)).setCell (p:=⟨w.heap.size+1,0,none⟩) (.inr rfl) _).setCell (p:=⟨w.heap.size+1,1,none⟩) (.inr rfl) _
   clear hK K
   try simp only[Act.put,zs1,zs2,zs3]
   refine tk 26 hSw3 ?_
   refine z1y (by kernel_rfl) ?_ _
   go_wp2_with fail
   refine zgh (p:=9) (g:=w.heap.size+1) rfl rfl (z2j (i:=1) (z2j (i:=0) (F3.out.blk HBU1.out (fun h=>h)) _) _) Tryz.underlying200 rfl (by kernel_rfl) rfl ?_
   have hF:=((F3.out.mono (C2:=fun b=>b=w.heap.size+1) (fun _ _ h=>h.elim)).setCell (p:=⟨w.heap.size+1,0,none⟩) (.inr rfl) (.slice mA y.1.length mc)).setCell (p:=⟨w.heap.size+1,1,none⟩) (.inr rfl) (.slice mB y.2.length me)
   have hF3:=((Fr.refl (fun b=>b=w.heap.size+1) w3).setCell (p:=⟨w.heap.size+1,0,none⟩) (.inr rfl) (.slice mA y.1.length mc)).setCell (p:=⟨w.heap.size+1,1,none⟩) (.inr rfl) (.slice mB y.2.length me)
   have hsf:=hF3.size
   have hz3:=HSZ3.out
   have hz2:=HSZ2.out
   have hq:=HQ.out
   have hns:∀b,b∈[w1.heap.size,w2.heap.size,g]↔b=w1.heap.size∨b=w2.heap.size∨b=g:=fun b=>by simp
   have hdt:∀b,(c0 b=0∧b<w1.heap.size∧b≠g)→Dt (ownN c0 [w1.heap.size,w2.heap.size,g] rn) b:=fun b h=>by
    show ownN c0 _ rn b=0
    rw[z8n (fun hm=>by rw[hns] at hm;omega)];exact h.1
   have hnd:∀b,(c0 b=0∧b<w1.heap.size∧b≠g)→¬b=w.heap.size+1:=fun b h e=>by rw[e,hq.2.1] at h;omega
   have hic:ItemCells (fun b=>c0 b=0∧b<w1.heap.size∧b≠g) w1 xs (l1++x::l2):=IC.out.mono fun b h hl=>⟨h.1,hl,fun e=>by have:=h.2;simp at this;omega⟩
   have hro:Row (fun b=>c0 b=0∧b<w1.heap.size∧b≠g) w1 (.slice (some ⟨a,0,none⟩) M cp) M 2 xs:=Row.ofOwn OW.out (fun b e=>by simp[Value.ownBlock] at e;subst e;exact⟨hq.2.2 _ hal,hal2,hga⟩)
   obtain⟨i1,i2⟩:=zgj (hro.mono (F':=Dt (ownN c0 [w1.heap.size,w2.heap.size,g] rn)) (fun b h _=>hdt b h)) hic (by have:=HM.out;simp;omega) hdt hm hcpm
   have hfd:∀{v:Value} {z:Bs},BytesAt (fun b=>c0 b=0∧b<w1.heap.size∧b≠g) w1 v z→BytesAt (Dt (ownN c0 [w1.heap.size,w2.heap.size,g] rn)) _ v z:=fun h=>(h.fr hF hnd).mono (fun b h _=>hdt b h)
   have hni:∀b,(Dt (ownN c0 [w1.heap.size,w2.heap.size,g] rn) b∧b<w1.heap.size)→¬b=w.heap.size+1:=fun b h e=>by
    have:=h.1
    unfold Dt at this
    rw[z8n (fun hm=>by rw[hns] at hm;omega),e,hq.2.1] at this
    omega
   have ii:∀{v:Value} {z:List KV},ItemsAt (Dt (ownN c0 [w1.heap.size,w2.heap.size,g] rn)) w1 v z→ItemsAt (Dt (ownN c0 [w1.heap.size,w2.heap.size,g] rn)) _ v z:=fun h=>((h.mono (F':=fun b=>Dt (ownN c0 [w1.heap.size,w2.heap.size,g] rn) b∧b<w1.heap.size) (fun b h hl=>⟨h,hl⟩)).fr hF hni).mono (fun b h _=>h.1)
   have hcc:∀b,b<w.heap.size+2→ownN c0 [w1.heap.size,w2.heap.size,g] rn b=c0 b:=fun b hb=>z8n (fun hm=>by rw[hns] at hm;omega)
   have hkk:All2 (Rep (ownN c0 [w1.heap.size,w2.heap.size,g] rn) rn _ pg N False d) (ks1++ks2) kvs:=KA.out.imp fun _ _ h=>Rep.fr hF (fun b e k=>by rw[e,hcc _ (by omega),hq.2.1] at k;omega) (fun b e k=>by rw[e,hcc _ (by omega),hq.2.1] at k;omega) (Rep.fr0 (Rep.ag (fun b hb=>hcc b (by simpa using hb)) h) F1b.out)
   have hkr:=z0m (OKK.out) hF (fun b e k=>by simp[Value.ownBlock] at e;omega)
   have hcells:∀j u,kvs[j]?=some u→World.cell? _ ⟨g,j,none⟩=some u:=fun j u hj=>by have:=hkr.cells (g:=g) rfl j u hj;rwa [add0] at this
   have hpl:=z8q hkr rfl
   have hkv:=HKV.out
   have hl1:(kvs.take (m+1)).length=m+1:=by rw[List.length_take];omega
   have hl2:(kvs.drop (m+1)).length=kvs.length-(m+1):=by rw[List.length_drop]
   refine⟨F1.out.trans hF (fun b hb e=>by omega),_,_,_,_,_,_,_,_,_,_,rfl,ownN c0 [w1.heap.size,w2.heap.size,g] rn,⟨z8o HAG0.out (fun b hb=>by rw[hns] at hb;omega),fun b hb=>?_,⟨w1.heap.size,w2.heap.size,g,by omega,by omega,by omega,by omega,by omega,by omega,
    z8s (kvs:=kvs.take (m+1)) (by rw[hl1];exact hF3.blk B23.out (by omega)) (ii i1) (z8m (by simp)) (z8m (by simp)) (fun e=>by rw[e] at hl1;simp at hl1) (by rw[hl1];exact Nat.le_refl _) (by unfold maxLen;omega) (fun j u hj=>by rw[Nat.zero_add];exact hcells j u (by rw[List.getElem?_take] at hj;split at hj;exact hj;cases hj)) (All2.take (m+1) hkk) hpl,
    z8s (kvs:=kvs.drop (m+1)) (by rw[hl2];exact hF3.blk B3.out (by omega)) (ii i2) (z8m (by simp)) (z8m (by simp)) (fun e=>by rw[e] at hl2;simp at hl2;omega) (by rw[hl2];omega) (by unfold maxLen;omega) (fun j u hj=>by rw[List.getElem?_drop] at hj;exact hcells _ u hj) (All2.drop (m+1) hkk) hpl⟩,y,HY.out,hfd (HBK.out.mono (fun b h hl=>⟨h.1,hl,fun e=>by have:=h.2;simp at this;omega⟩)),hfd (HBV.out.mono (fun b h hl=>⟨h.1,hl,fun e=>by have:=h.2;simp at this;omega⟩))⟩⟩
   show ownN c0 _ rn b=0
   rw[z8n (fun hm=>by rw[hns] at hm;omega)]
   exact hq.2.2 b (by omega)
end
end Go.Proofs.YtidalepbkljkpaaGreat
