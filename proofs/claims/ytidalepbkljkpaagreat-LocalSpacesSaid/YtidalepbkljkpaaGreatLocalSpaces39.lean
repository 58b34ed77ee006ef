import Derived.Test.YtidalepbkljkpaaGreatLocalSpaces38
set_option linter.all false
namespace Go.Proofs.YtidalepbkljkpaaGreat
open Go.RowKit Go.H
set_option maxRecDepth 100000
section
set_option maxHeartbeats 4000000
theorem zh8 {P:Program} {fn:Func} {R:Ending→World→Prop} {p s:Tmp} {ty:TypeId} (h:fn.results=#[.tmp s,.cell p ty]) {a:Act} {w:World} {g:Nat} {cs:Array Value} {d:TypeDesc} {tt:TypeId} {fr:Nat×Nat}
 (hp:a.tmps.getD p undef=.pointer (some ⟨g,0,none⟩)) (hg:w.heap[g]?=some (.cells cs tt fr)) (hu:P.underlying ty=some d) (hd:(match d with|.struct _|.array _ _=>true|_=>false)=true) (hi:(P.info? ty).map (·.size)=some cs.size)
 (hdef:a.defers=[]) (hR:R (.returned (.tuple #[a.tmps.getD s undef,.agg cs])) w):bodyPost P fn R .ret a w:=by
 refine bodyPost_ret_by (v:=.tuple #[a.tmps.getD s undef,.agg cs]) ?_ hdef hR
 simp only[results,h]
 have hp':a.tmps[p]?.getD undef=.pointer (some ⟨g,0,none⟩):=by simpa using hp
 simp[Sem.run_bind,Result.andThen,hp',asAddr,run_loadVar_row w g tt ty cs fr d hg hu hd hi]
structure LeafNew (c':Nat→Nat) (w0 w:World) (n:Nat) (A:Option Addr) (cap:Nat) (l:List KV) (xs:List Value):Prop where
 blk:w.heap[n]?=some (.cells #[.int .i64 0,.slice A l.length cap] 223 (0,0))
 row:w.ownsRow 0 200 2 (.slice A l.length cap) l.length xs
 cells:ItemCells (fun b=>c' b=0∧b≠n∧¬(Value.slice A l.length cap).ownBlock=some b) w xs l
 nn:w0.heap.size≤n∧c' n=0
 rr:∀b,(Value.slice A l.length cap).ownBlock=some b→w0.heap.size≤b∧c' b=0∧b≠n
theorem zh9 {c:Nat→Nat} {r rn q:Nat} {w:World} {tp st wp:Nat} {S:SSt} {D:DSt} {m:Nat} {t:T} {v:Value} {gone:List Nat} (hq0:q≠0) (hqr:q≠r) (hqn:q≠rn) (h:Hd c r w tp st S D) (hc:Cl w c) (hw:WorkAt c q w wp tp gone) (hr:Rep c rn w (pgs D) D.blocks False 1 t v) (hs:Shape 1 m t) (hm:1≤m) (hgl:gone.length≤1000000) :
 Calls Tryz.prog 160 #[.pointer (some ⟨wp,0,none⟩),v] w fun e w'=>Fr (fun b=>c b=q) w w'∧∃n,e=.returned (wLeaf n)∧∃A cap xs c',LeafNew c' w w' n A cap t.l xs∧Ag w.heap.size c c'∧Cl w' c'∧WorkAt c' q w' wp tp (gone++goneOf t):=by
 refine(z8i hq0 hqr hqn h hc hw hr hs hm hgl).mono ?_
 rintro e w' ⟨f,v',n,lv,kv,xs,kvs,c1,rfl,⟨o1,hp⟩,hks,hxl,hcells,hn,hcn,hlo,hko,hln,ha1,hcl1,hw1⟩
 rcases hp with⟨_,rfl,hb⟩|⟨hd,_⟩
 · rw[show xs.length / 2=t.l.length by omega] at o1
   obtain⟨A,cap,rfl,-⟩:=z0o o1
   exact⟨f,n,rfl,A,cap,xs,c1,⟨hb,o1,hcells.mono (fun b h _=>⟨h.1,h.2.1,h.2.2.1⟩),⟨hn,hcn⟩,fun b e=>⟨(hlo b e).1,(hlo b e).2,fun k=>hln (k▸e)⟩⟩,ha1,hcl1,hw1⟩
 · exact absurd rfl hd
structure LastRes (c:Nat→Nat) (rn q:Nat) (w:World) (pg:Nat→Option Bs) (N d m:Nat) (t:T) (L:List KV) (x:KV) (wp tp:Nat) (gone:List Nat) (tx:TypeId) (y kv vv:Value) (w':World):Prop where
 fr:Fr (fun b=>c b=q) w w'
 ex:∃c' gone' ta,Ag w.heap.size c c'∧Cl w' c'∧WorkAt c' q w' wp tp gone'∧gone'.length≤gone.length+2*d∧Rep c' rn w' pg N False d ta (.iface tx y)∧T.isMem' ta∧Shape d (m-1) ta∧flat d ta=L∧BytesAt (Dt c') w' kv x.1∧BytesAt (Dt c') w' vv x.2∧Acc w.heap.size d t [ta] gone gone'
def LastEnd (c:Nat→Nat) (rn q:Nat) (w:World) (pg:Nat→Option Bs) (N d m:Nat) (t:T) (L:List KV) (x:KV) (wp tp:Nat) (gone:List Nat) (e:Ending) (w':World):Prop:=
 ∃tx y kA kn kc vA vn vc,e=.returned (.tuple #[.iface tx y,.agg #[.slice kA kn kc,.slice vA vn vc]])∧LastRes c rn q w pg N d m t L x wp tp gone tx y (.slice kA kn kc) (.slice vA vn vc) w'
theorem zha {c c1:Nat→Nat} {rn q q2 u n cap k:Nat} {w w1 w':World} {pg:Nat→Option Bs} {N m:Nat} {t:T} {L:List KV} {x:KV} {wp tp:Nat} {gone:List Nat} {A:Option Addr} {xs:List Value} {kv vv:Value} (hq0:q≠0) (hqn:q≠rn) (hq2:q2≠q) (hq20:q2≠0) (hu:u=w.heap.size) (hcu:c1 u=q2) (hs:Shape 1 m t) (hfl:t.l=L++[x]) (hk:t.l.length=k+1)
 (hag:Ag w.heap.size c c1) (hcl:Cl w1 c1) (hw:WorkAt c1 q w1 wp tp (gone++goneOf t)) (h:LeafNew c1 w w1 n A cap t.l xs) (f1:Fr (fun b=>c b=q) w w1) (f:Fr (fun b=>b=n∨b=u) w1 w') (hb:w'.heap[n]?=some (.cells #[.int .i64 0,.slice A k cap] 223 (0,0))) (e1:xs[k*2]?=some kv) (e2:xs[k*2+1]?=some vv) (bk:BytesAt (fun b=>c1 b=0∧b≠n∧¬(Value.slice A t.l.length cap).ownBlock=some b) w1 kv x.1) (bv:BytesAt (fun b=>c1 b=0∧b≠n∧¬(Value.slice A t.l.length cap).ownBlock=some b) w1 vv x.2) :
 LastRes c rn q w pg N 1 m t L x wp tp gone 220 (.pointer (some ⟨n,0,none⟩)) kv vv w':=by
 have hnl:=(Array.getElem?_eq_some_iff.1 h.blk).1
 have s1:=f1.size
 have s':=f.size
 have hun:u≠n:=fun e=>hq20 (by rw[←hcu,e];exact h.nn.2)
 have hcp:∀b,b≠n→ownN c1 [n] rn b=c1 b:=fun b hb=>z8n (by simpa using hb)
 have hdt:∀b,(c1 b=0∧b≠n∧¬(Value.slice A t.l.length cap).ownBlock=some b)→¬(b=n∨b=u):=fun b hb e=>e.elim hb.2.1 (fun e=>hq20 (by rw[←hcu,←e];exact hb.1))
 have hL:t.l.take k=L:=by
  rw[hfl] at hk⊢
  have:L.length=k:=by simpa using hk
  rw[←this];simp
 have hrow:=z0m h.row f (fun b e k=>by
  have:=h.rr b e
  rcases k with k|k
  · exact this.2.2 k
  · exact hq20 (by rw[←hcu,←k];exact this.2.1))
 have hcap:k+1≤cap∧cap≤maxLen:=by
  obtain⟨_,_,he,h1,h2⟩:=(Row.ofOwn h.row (F:=fun _=>True) (fun _ _=>trivial)).form
  injection he with _ _ he
  omega
 refine⟨f1.trans f (fun b hb e=>by rcases e with e|e;have:=h.nn.1;omega;omega),ownN c1 [n] rn,gone++goneOf t,.node (.mem n 0 0) L [],z8o hag (fun b hb=>by simp at hb;rw[hb];exact h.nn.1),z8p (hcl.mono s') (fun b hb=>by simp at hb;omega),?_,?_,z8r hb ?_ (z8m (by simp)),⟨_,_,_,rfl⟩,?_,rfl,?_,?_,zaw hs h.nn.1⟩
 · exact(WorkAt.ownN hw hq0 (fun b hb=>by simp at hb;rw[hb];exact h.nn.2)).fr f (fun b e k=>by
    rcases e with e|e
    · rw[e,z8m (by simp)] at k;exact hqn k.symm
    · rw[e,hcp u hun,hcu] at k;exact hq2 k)
 · rw[List.length_append];have:=zay t;omega
 · rw[←hL]
   refine ItemsAt.ofCells (xs:=xs.take (k*2)) ?_ (((h.cells.fr f hdt).mono (F':=Dt (ownN c1 [n] rn)) (fun b hb _=>(hcp b hb.2.1).trans hb.1)).take k)
   have:=(Row.ofOwn hrow (F:=Dt (ownN c1 [n] rn)) (fun b e=>(hcp b (h.rr b e).2.2).trans (h.rr b e).2.1)).take (i:=k) (by omega)
   rw[show(t.l.take k).length=k by rw[List.length_take];omega]
   exact this
 · obtain⟨nm,l,ks⟩:=t
   obtain⟨a1,a2,a3,a4⟩:=hs
   have hkl:l.length=k+1:=hk
   have hLl:L.length=k:=by rw[←hL];show(l.take k).length=k;rw[List.length_take];omega
   exact⟨by omega,by omega,fun y hy=>a3 y (by have:y∈l.take k:=(by rw[show l.take k=L from hL];exact hy);exact List.mem_of_mem_take this),by rw[if_pos rfl]⟩
 · exact(bk.fr f hdt).mono (fun b hb _=>(hcp b hb.2.1).trans hb.1)
 · exact(bv.fr f hdt).mono (fun b hb _=>(hcp b hb.2.1).trans hb.1)
theorem zhb {c:Nat→Nat} {r rn q:Nat} {w:World} {tp st wp:Nat} {S:SSt} {D:DSt} {m:Nat} {t:T} {v:Value} {gone:List Nat} {L:List KV} {x:KV} (hq0:q≠0) (hqr:q≠r) (hqn:q≠rn) (hr0:rn≠0) (hh:Hd c r w tp st S D) (hc:Cl w c) (hw:WorkAt c q w wp tp gone) (hr:Rep c rn w (pgs D) D.blocks False 1 t v) (hs:Shape 1 m t) (hm:1≤m) (hfl:flat 1 t=L++[x]) (hgl:gone.length≤1000000) :
 Calls Tryz.prog 162 #[.pointer (some ⟨wp,0,none⟩),v] w (LastEnd c rn q w (pgs D) D.blocks 1 m t L x wp tp gone):=by
 obtain⟨q2,hq2,hq20,hq2r,hq2n⟩:∃q2,q2≠q∧q2≠0∧q2≠r∧q2≠rn:=⟨q+r+rn+1,by omega,by omega,by omega,by omega⟩
 have hag0:Ag w.heap.size c (ownN c [w.heap.size] q2):=z8o (Ag.refl _ _) (fun b hb=>by simp at hb;omega)
 have F0:=zhd ((Fr.refl C0 w).alloc (.cells #[.slice none 0 0,.slice none 0 0] 200))
 have hsz:(w.alloc (.cells #[.slice none 0 0,.slice none 0 0] 200)).heap.size=w.heap.size+1:=by simp
 have HCP:=zhd (zh9 hq0 hqr hqn ((hh.ag hag0).fr0 F0.out) (z8p (hc.mono (by omega)) (fun b hb=>by simp at hb;omega)) ((hw.ag hag0).fr0 F0.out) ((Rep.ag hag0 hr).fr0 F0.out) hs hm hgl)
 have HU:Hid (ownN c [w.heap.size] q2 w.heap.size=q2):=zhd (z8m (by simp))
 have HAG0:=zhd hag0
 have hbu:=heap_alloc_new w (.cells #[.slice none 0 0,.slice none 0 0] 200)
 have HBU:=zhd hbu
 have HSZ:=zhd hsz
 obtain⟨tx,y,rfl⟩:=hr.iface
 have hfl':t.l=L++[x]:=by rw[zgu,if_pos rfl] at hfl;exact hfl
 have HFL:=zhd hfl'
 have HS:=zhd hs
 obtain⟨k,hk⟩:∃k,t.l.length=k+1:=⟨L.length,by rw[hfl'];simp⟩
 have hk4:k≤3:=by have:=(zgt hs).2.1;omega
 have HK:=zhd hk
 have HC:=zhd hc
 clear hh hc hw hr hs hfl hfl' hag0 hbu hsz hk
 go_enter Tryz.func162,Tryz.ntmps162
 go_wp2_with fail
 refine HCP.out.mono ?_
 rintro e w1 ⟨f1,n,rfl,A,cap,xs,c1,hl,ag1,cl1,wk1⟩
 have HL:=zhd hl
 have F1:=zhd f1
 have AG1:=zhd ag1
 have CL1:=zhd cl1
 have WK1:=zhd wk1
 have hb1:=hl.blk
 rw[HK.out] at hb1
 have m1:=z2k hb1 1 rfl
 have HB1:=zhd hb1
 have o1:=hl.row
 have hxl:=o1.1
 obtain⟨A',cap',he,hA⟩:=z0o o1
 injection he with he1 _ he2
 subst he1
 subst he2
 obtain⟨g,rfl⟩:∃g,A=some ⟨g,0,none⟩:=by
  cases A with
  | none =>
    have:=HK.out
    rcases o1.2 with⟨e',h0⟩|⟨g,cap,cur,e',_⟩
    · omega
    · cases e'
  |some a=>obtain⟨g,rfl⟩:=hA a rfl;exact⟨g,rfl⟩
 have hxk:xs.length=(k+1)*2:=by rw[hxl,HK.out]
 have hi2:k*2<xs.length:=by omega
 have hi3:k*2+1<xs.length:=by omega
 have z0:=o1.cells (g:=g) rfl (k*2) _ (List.getElem?_eq_getElem hi2)
 have z1:=o1.cells (g:=g) rfl (k*2+1) _ (List.getElem?_eq_getElem hi3)
 rw[add0] at z0 z1
 obtain⟨mk,mv,e1,e2,bk,bv⟩:=hl.cells.at_ k (by rw[HK.out];omega)
 have hxe:t.l[k]'(by rw[HK.out];omega)=x:=by
  have h1:=HFL.out
  have h2:k=L.length:=by have:=HK.out;rw[h1] at this;simp at this;omega
  subst h2
  simp[h1]
 rw[hxe] at bk bv
 have E1:=zhd e1
 have E2:=zhd e2
 rw[List.getElem?_eq_getElem hi2] at e1
 rw[List.getElem?_eq_getElem hi3] at e2
 injection e1 with e1
 injection e2 with e2
 rw[e1] at z0
 rw[e2] at z1
 have BK:=zhd bk
 have BV:=zhd bv
 obtain⟨mA,mc,rfl,-⟩:=bk.form
 obtain⟨mB,me,rfl,-⟩:=bv.form
 obtain⟨_,_,hel,hlc1,hlc2⟩:=(Row.ofOwn o1 (F:=fun _=>True) (fun _ _=>trivial)).form
 injection hel with he1 _ hel
 subst he1
 subst hel
 rw[HK.out] at hlc1
 have hs1:=f1.size
 rw[HSZ.out] at hs1
 have hnu:¬n=w.heap.size:=by have:=hl.nn.1;rw[HSZ.out] at this;omega
 have hbu1:=f1.blk HBU.out (fun e=>hq2 (by rw[←HU.out];exact e))
 have HBU1:=zhd hbu1
 have hki:(k:Int)<(k:Int)+1:=by omega
 have hwk:IntKind.i64.wrap (k:Int)=(k:Int):=z0t _ (by omega) (by omega)
 have hkc:(k:Int)≤(cap:Int):=by omega
 clear hl f1 ag1 cl1 wk1 hb1 o1 hxl hA bk bv e1 e2 hxe HCP hbu1
 go_wp2_with fail
 refine z1z (Fr C0 w1) [13] (by kernel_rfl) ?_
 have hSw0:(Fr C0 w1) _:=(Fr.refl C0 w1).drew
 refine tk 0 hSw0 ?_
 refine tk 1 hSw0 ?_
 refine tk 2 hSw0 ?_
 refine tk 3 hSw0 ?_ (hy:=by intro w_ hS_;have e0:=hS_.cell0 m1;have e2:=hS_.cell0 z0;have e3:=hS_.cell0 z1;first|(go_simp;done)|(go_simp;with_reducible rfl))
 refine tk 4 hSw0 ?_
 refine tk 5 hSw0 ?_
 refine tk 6 hSw0 ?_
 refine tk 7 hSw0 ?_ (hy:=by intro w_ hS_;have e0:=hS_.cell0 m1;have e2:=hS_.cell0 z0;have e3:=hS_.cell0 z1;first|(go_simp;done)|(go_simp;with_reducible rfl))
 refine tk 8 hSw0 ?_ (hy:=by intro w_ hS_;have e0:=hS_.cell0 m1;have e2:=hS_.cell0 z0;have e3:=hS_.cell0 z1;first|(go_simp;done)|(go_simp;with_reducible rfl))
 refine tk 9 hSw0 ?_
 refine tk 10 hSw0 ?_
 refine tk 11 hSw0 ?_ (hy:=by intro w_ hS_;have e0:=hS_.cell0 m1;have e2:=hS_.cell0 z0;have e3:=hS_.cell0 z1;first|(go_simp;done)|(go_simp;with_reducible rfl))
 refine one_ 12 rfl (fun K hK=>?_)
 go_simp
 refine hK.out _ _ ?kS1 (fun hSw1=>?kR1)
 case kS1=>exact((Fr.refl C0 w1).alloc _).drew
 clear hK K
 try simp only[Act.put,zs1,zs2,zs3]
 refine z1v 13 rfl (fun K hK=>?_)
 go_simp
 refine hK.out _ _ ?_;clear hK K
 try simp only[Act.put,zs1,zs2,zs3]
 refine z1y (by kernel_rfl) ?_ _
 have F5:=zhd (((Fr.refl C0 w1).alloc (.cells #[.slice mA x.1.length mc,.slice mB x.2.length me] 200)).drew)
 have h10:((w1.alloc (.cells #[.slice mA x.1.length mc,.slice mB x.2.length me] 200)).drew).heap[w1.heap.size]?=some (.cells #[.slice mA x.1.length mc,.slice mB x.2.length me] 200 (0,0)):=heap_alloc_new w1 _
 generalize (w1.alloc (.cells #[.slice mA x.1.length mc,.slice mB x.2.length me] 200)).drew=w5 at *
 have H10:=zhd h10
 have m15:=F5.out.cell0 m1
 have B5:=zhd (F5.out.blk HB1.out (fun h=>h))
 have zn5:=z2i 1 B5.out
 clear h10 z0 z1 m1
 go_wp2_with fail
 refine z1z (Fr C0 w5) [14] (by kernel_rfl) ?_
 have hSw0:(Fr C0 w5) _:=(Fr.refl C0 w5).drew
 refine tk 0 hSw0 ?_
 refine tk 1 hSw0 ?_
 refine tk 2 hSw0 ?_
 refine tk 3 hSw0 ?_
 refine tk 4 hSw0 ?_ (hy:=by intro w_ hS_;have e0:=hS_.cell0 m15;first|(go_simp;done)|(go_simp;with_reducible rfl))
 refine tk 5 hSw0 ?_
 refine tk 6 hSw0 ?_
 refine tk 7 hSw0 ?_
 refine tk 8 hSw0 ?_ (hy:=by intro w_ hS_;have e0:=hS_.cell0 m15;first|(go_simp;done)|(go_simp;with_reducible rfl))
 refine tk 9 hSw0 ?_ (hy:=by intro w_ hS_;have e0:=hS_.cell0 m15;first|(go_simp;done)|(go_simp;with_reducible rfl))
 refine tk 10 hSw0 ?_
 refine tk 11 hSw0 ?_
 refine tk 12 hSw0 ?_
 refine tk 13 hSw0 ?_
 refine z1v 14 rfl (fun K hK=>?_)
 go_simp
 refine hK.out _ _ ?_;clear hK K
 try simp only[Act.put,zs1,zs2,zs3]
 refine z1y (by kernel_rfl) ?_ _
 have F6:=zhd (((Fr.refl (fun b=>b=n∨b=w.heap.size) w5).setCell (p:=⟨n,1,none⟩) (.inr (.inl rfl)) (.slice (some ⟨g,0,none⟩) k cap)).drew)
 have b6:((w5.setCell ⟨n,1,none⟩ (.slice (some ⟨g,0,none⟩) k cap)).drew).heap[n]?=some (.cells #[.int .i64 0,.slice (some ⟨g,0,none⟩) k cap] 223 (0,0)):=z2j (i:=1) B5.out _
 have f6:=((Fr.refl (fun b=>b=n) w5).setCell (p:=⟨n,1,none⟩) (.inr rfl) (.slice (some ⟨g,0,none⟩) k cap)).drew
 have hnl:=(Array.getElem?_eq_some_iff.1 HB1.out).1
 have h6:=f6.blk H10.out (fun e:w1.heap.size=n=>by omega)
 have u6:=f6.blk (F5.out.blk HBU1.out (fun h=>h)) (fun e:w.heap.size=n=>hnu e.symm)
 clear zn5 m15 f6
 generalize (w5.setCell ⟨n,1,none⟩ (.slice (some ⟨g,0,none⟩) k cap)).drew=w6 at *
 have x0:=z2k h6 0 rfl
 have x1:=z2k h6 1 rfl
 have y0:=z2k u6 0 rfl
 have y1:=z2k u6 1 rfl
 have zu0:=z2i 0 u6
 have zu1:=z2i 1 u6
 have U6:=zhd u6
 have B6:=zhd b6
 clear h6 u6 b6
 go_wp2_with fail
 refine z1z (Fr C0 w6) [4] (by kernel_rfl) ?_
 have hSw0:(Fr C0 w6) _:=(Fr.refl C0 w6).drew
 refine tk 0 hSw0 ?_
 refine tk 1 hSw0 ?_
 refine tk 2 hSw0 ?_ (hy:=by intro w_ hS_;have e0:=hS_.cell0 x0;have e1:=hS_.cell0 x1;first|(go_simp;done)|(go_simp;with_reducible rfl))
 refine tk 3 hSw0 ?_
 refine z1v 4 rfl (fun K hK=>?_)
 go_simp
 refine hK.out _ _ ?_;clear hK K
 try simp only[Act.put,zs1,zs2,zs3]
 refine z1y (by kernel_rfl) ?_ _
 go_wp2_with fail
 refine zh8 (p:=5) (g:=w.heap.size) rfl rfl (z2j (i:=1) (z2j (i:=0) U6.out (.slice mA x.1.length mc)) (.slice mB x.2.length me)) Tryz.underlying200 rfl (by kernel_rfl) rfl ?_
 have hcu:c1 w.heap.size=q2:=(AG1.out _ (by rw[HSZ.out];omega)).trans HU.out
 have hl:LeafNew c1 w w1 n (some ⟨g,0,none⟩) cap t.l xs:=by
  have:=HL.out
  have e:=HSZ.out
  exact⟨this.blk,this.row,this.cells,⟨by have:=this.nn.1;omega,this.nn.2⟩,fun b hb=>⟨by have:=(this.rr b hb).1;omega,(this.rr b hb).2⟩⟩
 have F7:=((F6.out.setCell (p:=⟨w.heap.size,0,none⟩) (.inr (.inr rfl)) (.slice mA x.1.length mc)).setCell (p:=⟨w.heap.size,1,none⟩) (.inr (.inr rfl)) (.slice mB x.2.length me)).drew
 refine⟨_,_,_,_,_,_,_,_,rfl,zha hq0 hqn hq2 hq20 rfl hcu HS.out HFL.out HK.out (fun b hb=>(AG1.out b (by rw[HSZ.out];omega)).trans (HAG0.out b hb)) CL1.out WK1.out hl ((F0.out.mono (fun _ _ h=>h.elim)).trans F1.out (fun b hb e=>by rw[←HAG0.out b hb];exact e)) ((F5.out.mono (fun _ _ h=>h.elim)).trans F7 (fun _ _ h=>h)) ?_ E1.out E2.out BK.out BV.out⟩
 exact((((Fr.refl (fun b=>b=w.heap.size) w6).setCell (p:=⟨w.heap.size,0,none⟩) (.inr rfl) (.slice mA x.1.length mc)).setCell (p:=⟨w.heap.size,1,none⟩) (.inr rfl) (.slice mB x.2.length me)).drew).blk B6.out (fun e:n=w.heap.size=>hnu e)
end
section
set_option maxHeartbeats 2000000
theorem Acc.low {n0 n1 d:Nat} {t:T} {news:List T} {g g':List Nat} (h:Acc n1 d t news g g') (h01:n0≤n1) (hz:∀b o,n0≤b→cnt d (.cl b o) t=0):Acc n0 d t news g g':=by
 refine⟨h.pg,fun b o=>?_,h.dirty⟩
 have h1:=h.cl b o
 have h2:=hz b o
 split at h1<;>split<;>first|omega|(have:=h2 (by omega);omega)
theorem zhc {d m:Nat} {t:T} (hm:1≤m) (h:Shape d m t):flat d t≠[]:=by
 intro e
 have:=zdh hm h
 rw[e] at this
 simp at this
 subst this
 exact h.elim
theorem zhe {c c2:Nat→Nat} {rn q qn:Nat} {w w3 w4:World} {pg:Nat→Option Bs} {N d m n i wp tp:Nat} {t ta:T} {l0:List KV} {gone gone2:List Nat} (hq0:q≠0) (hqn:q≠rn) (hn0:qn≠0) (hnn:qn≠rn) (hnq:qn≠q) (hc:Cl w c) (hqf:∀b,c b≠qn) (hag2:Ag w.heap.size c c2) (s3:w.heap.size≤w3.heap.size) (hs:Shape (d+1+1) m t) (hl0:l0.length=t.l.length) (hi:i<t.ks.length) (R:MendRes c2 qn rn q w3 pg N (d+1) n l0 (t.ks.set i ta) wp tp gone2 w4) (hcn:c2 n=qn) (hnl:n<w3.heap.size)
 (hz:∀b o,w.heap.size≤b→sumN (t.ks.map (cnt (d+1) (.cl b o)))=0) (hd:sumN (t.ks.map (dirtyN (d+1)))≤dirtyN (d+1+1) t) (acck:Acc w.heap.size (d+1) t.ks[i] [ta] (gone++goneOf t) gone2) (hgl:gone2.length≤gone.length+1+2*(d+1)) :
 ∃c' gone' ta',Ag w.heap.size c c'∧Cl w4 c'∧WorkAt c' q w4 wp tp gone'∧gone'.length≤gone.length+2*(d+1+1)∧Rep c' rn w4 pg N False (d+1+1) ta' (wInner n)∧T.isMem' ta'∧Shape (d+1+1) (m-1) ta'∧flat (d+1+1) ta'=inter l0 ((t.ks.set i ta).map (flat (d+1)))∧Acc w.heap.size (d+1+1) t [ta'] gone gone'∧(∀b,c2 b≠qn→b<w3.heap.size→c' b=c2 b):=by
 obtain⟨c3,l',ks',gone3,ag3,cl3,wk3,io,hlen,hsk,hkv,hl1,hl2,hfl,hacc,hg3⟩:=R.ex
 have hks0:ks'≠[]:=by
  rintro rfl
  simp at hlen
 have io2:=io
 obtain⟨c4,g,h4,hrep,hcg,hgn,hgl4⟩:=io.close hks0 hn0 hnn
 obtain⟨lv,kv,xs,kvs,a1,a2,a3,a4,a5,a6,a7,a8⟩:=io2
 have s34:=R.fr.size
 have hnw:w.heap.size≤n:=by
  by_cases h:n<w.heap.size
  · exact absurd ((hag2 n h).symm.trans hcn) (hqf n)
  · omega
 have hgw:w.heap.size≤g:=by
  by_cases h:g<w.heap.size
  · exact absurd (((ag3 g (by omega)).trans (hag2 g h)).symm.trans hcg) (hqf g)
  · omega
 have hls:=zgt hs
 have hA:AccL w.heap.size (d+1) (2*(d+1)+1) t.ks ks' (gone++goneOf t) gone3:=(AccL.set hi acck hz).trans hacc s3
 refine⟨c4,gone3,.node (.mem n g 0) l' ks',fun b hb=>?_,fun b hb=>?_,?_,by omega,hrep,⟨_,_,_,rfl⟩,⟨by omega,by omega,hkv,?_⟩,?_,hA.close (Nat.le_refl _) hnw hgw hgn (fun o=>All2.cl_own a5 (by rw[a6];exact hnn)) (fun o=>All2.cl_own a5 (by rw[hcg];exact hnn)) hd,fun b h1 h2=>?_⟩
 · have e1:c3 b=c b:=(ag3 b (by omega)).trans (hag2 b hb)
   rw[h4 b (by rw[e1];exact hqf b)];exact e1
 · rw[h4 b (by rw[cl3 b hb];exact fun e=>hn0 e.symm)];exact cl3 b hb
 · obtain⟨gv,x1,x2,x3,x4⟩:=wk3
   exact⟨gv,x1,x2,by rw[h4 _ (by rw[x3];exact fun e=>hnq e.symm)];exact x3,fun b e=>by rw[h4 _ (by rw[x4 b e];exact fun e=>hnq e.symm)];exact x4 b e⟩
 · rw[if_neg (by omega)]
   exact⟨hlen,hsk⟩
 · rw[zgv,if_neg (by omega)]
   exact hfl
 · have e1:c3 b=c2 b:=ag3 b h2
   rw[h4 b (by rw[e1];exact h1)];exact e1
end
section
set_option maxHeartbeats 2000000
structure InnerAt (c:Nat→Nat) (qn rn:Nat) (w:World) (pg:Nat→Option Bs) (N d n:Nat) (l:List KV) (ks:List T) (L0 lc G kc:Nat) (xs kvs:List Value):Prop where
 blk:w.heap[n]?=some (.cells #[.int .i64 0,.slice (some ⟨L0,0,none⟩) l.length lc,.slice (some ⟨G,0,none⟩) kvs.length kc] 198 (0,0))
 row:w.ownsRow 0 200 2 (.slice (some ⟨L0,0,none⟩) l.length lc) l.length xs
 cells:ItemCells (Dt c) w xs l
 krow:w.ownsRow 0 20 1 (.slice (some ⟨G,0,none⟩) kvs.length kc) kvs.length kvs
 kids:All2 (Rep c rn w pg N False d) ks kvs
 cn:c n=qn
 cl:c L0=qn∧L0≠n
 cg:c G=qn∧G≠n∧G≠L0
variable {c c' : Nat → Nat} {qn rn : Nat} {w w' : World} {pg : Nat → Option Bs} {N d n : Nat} {l : List KV} {ks : List T} {L0 lc G kc : Nat} {xs kvs : List Value}
theorem zhf {w:World} {B e size n:Nat} {v:Value} {xs:List Value} (h:w.ownsRow B e size v n xs) (hn:1≤n):∃g cap,v=.slice (some ⟨g,0,none⟩) n cap:=by
 obtain⟨A,cap,rfl,hA⟩:=z0o h
 cases A with
 | none =>
   rcases h.2 with⟨e',h0⟩|⟨g,cap,cur,e',_⟩
   · omega
   · cases e'
 |some a=>obtain⟨g,rfl⟩:=hA a rfl;exact⟨g,cap,rfl⟩
theorem InnerOpen.at (h:InnerOpen c qn rn w pg N d n l ks) (hl:1≤l.length) (hk:1≤ks.length):∃L0 lc G kc xs kvs,InnerAt c qn rn w pg N d n l ks L0 lc G kc xs kvs:=by
 obtain⟨lv,kv,xs,kvs,b1,ol,ic,ok,ka,cn,clv,ckv⟩:=h
 have hkl:=All2.length ka
 obtain⟨L0,lc,rfl⟩:=zhf ol hl
 obtain⟨G,kc,rfl⟩:=zhf ok (by omega)
 exact⟨L0,lc,G,kc,xs,kvs,b1,ol,ic,ok,ka,cn,clv L0 rfl,(ckv G rfl).1,(ckv G rfl).2.1,fun e=>(ckv G rfl).2.2 (by rw[e];rfl)⟩
theorem InnerAt.open_ (h:InnerAt c qn rn w pg N d n l ks L0 lc G kc xs kvs):InnerOpen c qn rn w pg N d n l ks:=
 ⟨_,_,xs,kvs,h.blk,h.row,h.cells,h.krow,h.kids,h.cn,fun b e=>by simp[Value.ownBlock] at e;subst e;exact h.cl,fun b e=>by simp[Value.ownBlock] at e;subst e;exact⟨h.cg.1,h.cg.2.1,fun e=>h.cg.2.2 (by simp[Value.ownBlock] at e;exact e.symm)⟩⟩
theorem InnerAt.lt (h:InnerAt c qn rn w pg N d n l ks L0 lc G kc xs kvs):n<w.heap.size∧L0<w.heap.size∧G<w.heap.size:=⟨(Array.getElem?_eq_some_iff.1 h.blk).1,(h.row.lt L0 rfl).2,(h.krow.lt G rfl).2⟩
theorem InnerAt.fr {C:Nat→Prop} (h:InnerAt c qn rn w pg N d n l ks L0 lc G kc xs kvs) (hf:Fr C w w') (hC:∀b,C b→c b≠qn∧c b≠rn∧c b≠0):InnerAt c qn rn w' pg N d n l ks L0 lc G kc xs kvs:=
 ⟨hf.blk h.blk (fun e=>(hC _ e).1 h.cn),z0m h.row hf (fun b e k=>by simp[Value.ownBlock] at e;subst e;exact(hC _ k).1 h.cl.1),h.cells.fr hf (fun b e k=>(hC _ k).2.2 e),z0m h.krow hf (fun b e k=>by simp[Value.ownBlock] at e;subst e;exact(hC _ k).1 h.cg.1),h.kids.imp fun _ _ h=>Rep.fr hf (fun b k=>(hC _ k).2.1) (fun b k=>(hC _ k).2.2) h,h.cn,h.cl,h.cg⟩
theorem InnerAt.fr0 (h:InnerAt c qn rn w pg N d n l ks L0 lc G kc xs kvs) (hf:Fr C0 w w'):InnerAt c qn rn w' pg N d n l ks L0 lc G kc xs kvs:=h.fr hf (fun _ k=>k.elim)
theorem InnerAt.ag (h:InnerAt c qn rn w pg N d n l ks L0 lc G kc xs kvs) (ha:Ag w.heap.size c c'):InnerAt c' qn rn w pg N d n l ks L0 lc G kc xs kvs:=
 ⟨h.blk,h.row,h.cells.mono (fun b e k=>(ha b k).trans e),h.krow,h.kids.imp fun _ _ h=>Rep.ag ha h,(ha _ h.lt.1).trans h.cn,⟨(ha _ h.lt.2.1).trans h.cl.1,h.cl.2⟩,(ha _ h.lt.2.2).trans h.cg.1,h.cg.2⟩
theorem InnerAt.setKid {i:Nat} {ta:T} {v:Value} (h:InnerAt c qn rn w pg N d n l ks L0 lc G kc xs kvs) (hn0:qn≠0) (hnn:qn≠rn) (hi:i<kvs.length) (hr:Rep c rn w pg N False d ta v) (hf:Fr (fun b=>b=G) w w') (hk:w'.ownsRow 0 20 1 (.slice (some ⟨G,0,none⟩) kvs.length kc) kvs.length (kvs.set i v)):InnerAt c qn rn w' pg N d n l (ks.set i ta) L0 lc G kc xs (kvs.set i v):=by
 have h1:∀b,b=G→c b≠rn:=fun b e k=>hnn (by rw[←h.cg.1,←e];exact k)
 have h2:∀b,b=G→c b≠0:=fun b e k=>hn0 (by rw[←h.cg.1,←e];exact k)
 refine⟨by rw[List.length_set];exact hf.blk h.blk (fun e=>h.cg.2.1 e.symm),z0m h.row hf (fun b e k=>by simp[Value.ownBlock] at e;exact h.cg.2.2 (by omega)),h.cells.fr hf (fun b e k=>h2 b k e),by rw[List.length_set];exact hk,All2.set (Rep.fr hf h1 h2 hr) i (h.kids.imp fun _ _ h=>Rep.fr hf h1 h2 h),h.cn,h.cl,h.cg⟩
theorem zhg {i:Nat} {v:Value} (h:InnerAt c qn rn w pg N d n l ks L0 lc G kc xs kvs) (hi:i<kvs.length):(w.setCell ⟨G,i,none⟩ v).ownsRow 0 20 1 (.slice (some ⟨G,0,none⟩) kvs.length kc) kvs.length (kvs.set i v):=z8l h.krow (by omega)
end
end Go.Proofs.YtidalepbkljkpaaGreat
