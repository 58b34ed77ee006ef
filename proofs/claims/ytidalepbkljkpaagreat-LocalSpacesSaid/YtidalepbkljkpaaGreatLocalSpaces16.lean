import Derived.Test.YtidalepbkljkpaaGreatLocalSpaces15
import Derived.Test.YtidalepbkljkpaaGreatLocalSpaces10
import Derived.Test.YtidalepbkljkpaaGreatLocalSpaces14
import Derived.Test.YtidalepbkljkpaaGreatLocalSpaces12
import Derived.Test.YtidalepbkljkpaaGreatLocalSpaces03
set_option linter.all false
section
namespace Go.H
open Go.RowKit
theorem ItemCells.set {F:Nat→Prop} {w:World} {x:KV} {kv vv:Value} (hk:BytesAt F w kv x.1) (hv:BytesAt F w vv x.2):∀{xs:List Value} {l:List KV} (i:Nat),ItemCells F w xs l→ItemCells F w ((xs.set (i*2) kv).set (i*2+1) vv) (l.set i x)
 |_,_,i,.nil=>by simpa using nil
 |_,_,0,.cons h1 h2 h3=>by simpa using cons hk hv h3
 | _, _, i + 1, .cons (x := y) (kv := a) (vv := b) (xs := xs) (l := l) h1 h2 h3 => by
   have:=ItemCells.set hk hv i h3
   rw[show(i+1)*2=i*2+1+1 by omega]
   simp only[List.set_cons_succ]
   exact cons h1 h2 this
theorem z8l {w:World} {B e size n:Nat} {g cap j:Nat} {xs:List Value} {u:Value} (h:w.ownsRow B e size (.slice (some ⟨g,0,none⟩) n cap) n xs) (hj:j<xs.length):(w.setCell ⟨g,j,none⟩ u).ownsRow B e size (.slice (some ⟨g,0,none⟩) n cap) n (xs.set j u):=by
 refine⟨by rw[List.length_set];exact h.1,?_⟩
 rcases h.2 with⟨h',_⟩|⟨g',cap',cur,he,hb,hg,h1,h2,h3,h4⟩
 · cases h'
 · injection he with e1 e2 e3
   injection e1 with e1
   injection e1 with e1
   subst e1;subst e3
   refine .inr ⟨g,cap,cur.setIfInBounds j u,rfl,hb,z2j hg u,h1,h2,by simpa using h3,?_⟩
   rw[Array.toList_setIfInBounds,List.take_set,h4]
theorem ret4 {P:Program} {fn:Func} {R:Ending→World→Prop} {p u s t:Tmp} {ty:TypeId} (h:fn.results=#[.tmp s,.tmp t,.cell p ty,.tmp u]) {a:Act} {w:World} {g:Nat} {cs:Array Value} {d:TypeDesc} {tt:TypeId} {fr:Nat×Nat}
 (hp:a.tmps.getD p undef=.pointer (some ⟨g,0,none⟩)) (hg:w.heap[g]?=some (.cells cs tt fr)) (hu:P.underlying ty=some d) (hd:(match d with|.struct _|.array _ _=>true|_=>false)=true) (hi:(P.info? ty).map (·.size)=some cs.size)
 (hdef:a.defers=[]) (hR:R (.returned (.tuple #[a.tmps.getD s undef,a.tmps.getD t undef,.agg cs,a.tmps.getD u undef])) w):bodyPost P fn R .ret a w:=by
 refine bodyPost_ret_by (v:=.tuple #[a.tmps.getD s undef,a.tmps.getD t undef,.agg cs,a.tmps.getD u undef]) ?_ hdef hR
 simp only[results,h]
 have hp':a.tmps[p]?.getD undef=.pointer (some ⟨g,0,none⟩):=by simpa using hp
 simp[Sem.run_bind,Result.andThen,hp',asAddr,run_loadVar_row w g tt ty cs fr d hg hu hd hi]
def ownN (c:Nat→Nat) (ns:List Nat) (rn:Nat):Nat→Nat:=fun b=>if b∈ns then rn else c b
theorem z8m {c:Nat→Nat} {ns:List Nat} {rn b:Nat} (h:b∈ns):ownN c ns rn b=rn:=if_pos h
theorem z8n {c:Nat→Nat} {ns:List Nat} {rn b:Nat} (h:b∉ns):ownN c ns rn b=c b:=if_neg h
theorem z8o {n:Nat} {c c1:Nat→Nat} {ns:List Nat} {rn:Nat} (h:Ag n c c1) (hn:∀b∈ns,n≤b):Ag n c (ownN c1 ns rn):=fun b hb=>by
 rw[z8n (fun h=>by have:=hn b h;omega)];exact h b hb
theorem z8p {w:World} {c:Nat→Nat} {ns:List Nat} {rn:Nat} (h:Cl w c) (hn:∀b∈ns,b<w.heap.size):Cl w (ownN c ns rn):=fun b hb=>by
 rw[z8n (fun h=>by have:=hn b h;omega)];exact h b hb
end Go.H
namespace Go.Proofs.YtidalepbkljkpaaGreat
open Go.RowKit Go.H
set_option maxHeartbeats 2000000
set_option maxRecDepth 100000
theorem WorkAt.ownN {c:Nat→Nat} {q rn:Nat} {w:World} {wp tp:Nat} {gone ns:List Nat} (h:WorkAt c q w wp tp gone) (hq:q≠0) (hn:∀b∈ns,c b=0):WorkAt (ownN c ns rn) q w wp tp gone:=by
 obtain⟨gv,a,b,e,f⟩:=h
 have hx:∀x,c x=q→x∉ns:=fun x hx hm=>hq ((hx.symm).trans (hn x hm))
 exact⟨gv,a,b,by rw[z8n (hx _ e)];exact e,fun x hg=>by rw[z8n (hx _ (f x hg))];exact f x hg⟩
theorem z8q {w:World} {B e size n b:Nat} {v:Value} {xs:List Value} (h:w.ownsRow B e size v n xs) (hb:v.ownBlock=some b):Plain w b:=by
 obtain⟨cur,h⟩:=z4y h hb
 exact⟨cur,e,h⟩
theorem z8r {c:Nat→Nat} {rn:Nat} {w:World} {pg:Nat→Option Bs} {N:Nat} {X:Prop} {n:Nat} {lv:Value} {l:List KV} (hb:w.heap[n]?=some (.cells #[.int .i64 0,lv] 223 (0,0))) (hi:ItemsAt (Dt c) w lv l) (hn:c n=rn):Rep c rn w pg N X 1 (.node (.mem n 0 0) l []) (wLeaf n):=
 ⟨[],⟨lv,z2k hb 0 rfl,z2k hb 1 rfl,hi,.inl ⟨rfl,rfl⟩⟩,hn,fun h=>absurd rfl h,.nil,⟨_,_,hb⟩,fun h=>absurd rfl h⟩
theorem z8s {c:Nat→Nat} {rn:Nat} {w:World} {pg:Nat→Option Bs} {N:Nat} {X:Prop} {d n g o cp:Nat} {lv:Value} {l:List KV} {ks:List T} {kvs:List Value} (hb:w.heap[n]?=some (.cells #[.int .i64 0,lv,.slice (some ⟨g,o,none⟩) kvs.length cp] 198 (0,0))) (hi:ItemsAt (Dt c) w lv l) (hn:c n=rn) (hg:c g=rn) (hk0:kvs≠[]) (hl:kvs.length≤cp) (hm:cp≤maxLen) (hc:∀i u,kvs[i]?=some u→w.cell? ⟨g,o+i,none⟩=some u) (hk:All2 (Rep c rn w pg N X d) ks kvs) (hgb:Plain w g):Rep c rn w pg N X (d+1) (.node (.mem n g o) l ks) (wInner n):=
 ⟨kvs,⟨lv,z2k hb 0 rfl,z2k hb 1 rfl,hi,.inr ⟨hk0,rfl,cp,z2k hb 2 rfl,hl,hm,hc⟩⟩,hn,fun _=>hg,hk,⟨_,_,hb⟩,fun _=>hgb⟩
structure Acc (n0 d:Nat) (t:T) (news:List T) (gone gone':List Nat):Prop where
 pg:∀id,sumN (news.map (cnt d (.pg id)))+gone'.count id=cnt d (.pg id) t+gone.count id
 cl:∀b o,sumN (news.map (cnt d (.cl b o)))≤if b<n0 then cnt d (.cl b o) t else 1
 dirty:sumN (news.map (dirtyN d))≤dirtyN d t+2*d
inductive PutEnd (c:Nat→Nat) (rn:Nat) (w:World) (pg:Nat→Option Bs) (N d m:Nat) (L:List KV) (more:Bool) (n0:Nat) (t:T) (gone gone':List Nat) (e:Ending):Prop
 |one {ta:T} {va:Value}:e=.returned (.tuple #[va,.nilIface,.agg #[.slice none 0 0,.slice none 0 0],.bool more])→Rep c rn w pg N False d ta va→Shape d m ta→flat d ta=L→Acc n0 d t [ta] gone gone'→PutEnd c rn w pg N d m L more n0 t gone gone' e
 |two {ta tb:T} {va vb kv vv:Value} {x:KV}:e=.returned (.tuple #[va,vb,.agg #[kv,vv],.bool more])→Rep c rn w pg N False d ta va→Rep c rn w pg N False d tb vb→Shape d 2 ta→Shape d 2 tb→BytesAt (Dt c) w kv x.1→BytesAt (Dt c) w vv x.2→KVok x→flat d ta++x::flat d tb=L→Acc n0 d t [ta,tb] gone gone'→PutEnd c rn w pg N d m L more n0 t gone gone' e
structure PutRes (c:Nat→Nat) (rn q:Nat) (w:World) (pg:Nat→Option Bs) (N d m:Nat) (t:T) (x:KV) (wp tp:Nat) (gone:List Nat) (e:Ending) (w':World):Prop where
 fr:Fr (fun b=>c b=q) w w'
 ex:∃c' gone',Ag w.heap.size c c'∧Cl w' c'∧WorkAt c' q w' wp tp gone'∧gone'.length≤gone.length+d∧PutEnd c' rn w' pg N d m (putL x (flat d t)) (decide (getL x.1 (flat d t)=none)) w.heap.size t gone gone' e
end Go.Proofs.YtidalepbkljkpaaGreat
end
namespace Go.Proofs.YtidalepbkljkpaaGreat
open Go.RowKit Go.H
set_option maxHeartbeats 1000000
set_option maxRecDepth 100000
section
def Apart (c:Nat→Nat) (r:Nat) (w:World) (ns:List Nat):Prop:=∀b∈ns,c b=r∧∃cs e f,w.heap[b]?=some (.cells cs e f)∧e≠172∧e≠113∧e≠125
theorem Apart.lt {c:Nat→Nat} {r:Nat} {w:World} {ns:List Nat} (h:Apart c r w ns):∀b∈ns,b<w.heap.size:=fun b hb=>by
 obtain⟨_,cs,e,f,h,_⟩:=h b hb
 exact(Array.getElem?_eq_some_iff.1 h).1
theorem StoreIn.away {c:Nat→Nat} {r q:Nat} {w:World} {st sm d m:Nat} {ov:Value} {S:SSt} {D:DSt} {ns:List Nat} (h:StoreIn c r w st sm d m ov S D) (hr:r≠0) (hn:Apart c r w ns):StoreIn (ownN c ns q) r w st sm d m ov S D:=by
 have no:∀b,(∃cs f,w.heap[b]?=some (.cells cs 172 f))→b∉ns:=fun b ⟨cs,f,h1⟩ hb=>by
  obtain⟨_,cs2,e,f2,h2,h3,_⟩:=hn b hb
  rw[h1] at h2;injection h2 with h2;injection h2 with _ h2;exact h3 h2.symm
 have no2:∀b,(∃cs f,w.heap[b]?=some (.cells cs 113 f))→b∉ns:=fun b ⟨cs,f,h1⟩ hb=>by
  obtain⟨_,cs2,e,f2,h2,_,h3,_⟩:=hn b hb
  rw[h1] at h2;injection h2 with h2;injection h2 with _ h2;exact h3 h2.symm
 have no3:∀b,(∃cs f,w.heap[b]?=some (.cells cs 125 f))→b∉ns:=fun b ⟨cs,f,h1⟩ hb=>by
  obtain⟨_,cs2,e,f2,h2,_,_,h3⟩:=hn b hb
  rw[h1] at h2;injection h2 with h2;injection h2 with _ h2;exact h3 h2.symm
 have no4:∀b L,MapIs w b L→b∉ns:=fun b L ⟨es,k,h1,_⟩ hb=>by
  obtain⟨_,cs2,e,f2,h2,_⟩:=hn b hb
  rw[h1] at h2;injection h2 with h2;cases h2
 have n1:=no st ⟨_,_,h.blk⟩
 have n2:=no4 sm _ h.map
 have n3:=no2 d ⟨_,_,h.disk.blk⟩
 have n4:m∉ns:=by obtain⟨M,k1,_⟩:=h.disk.kept;exact no4 m _ k1
 refine⟨h.blk,h.map,h.disk.mono fun b hb hl=>?_,by rw[z8n n1];exact h.ost,by rw[z8n n2];exact h.osm,by rw[z8n n3];exact h.od,by rw[z8n n4];exact h.om,fun b hb=>?_,h.ne,h.dk⟩
 · show ownN c ns q b=0
   rw[z8n fun hm=>hr ((hn b hm).1.symm.trans hb)];exact hb
 · obtain⟨xs,o,_⟩:=h.disk.opn
   obtain⟨cur,h1⟩:=z4y o hb
   rw[z8n (no3 b ⟨_,_,h1⟩)];exact h.oov b hb
theorem StoreOk.away {c:Nat→Nat} {r q:Nat} {w:World} {st:Nat} {S:SSt} {D:DSt} {ns:List Nat} (h:StoreOk c r w st S D) (hr:r≠0) (hn:Apart c r w ns):StoreOk (ownN c ns q) r w st S D:=by
 obtain⟨sm,d,m,ov,h⟩:=h
 exact⟨sm,d,m,ov,h.away hr hn⟩
theorem StoreOk.back {c:Nat→Nat} {r q:Nat} {w:World} {st:Nat} {S:SSt} {D:DSt} {ns:List Nat} (h:StoreOk c r w st S D) (hq:q≠0) (hn:∀b∈ns,c b=q):StoreOk (ownN c ns r) r w st S D:=by
 obtain⟨sm,d,m,ov,h⟩:=h
 have hx:∀b,c b=r→ownN c ns r b=r:=fun b hb=>by unfold ownN;split<;>simp[hb]
 exact⟨sm,d,m,ov,h.blk,h.map,h.disk.mono fun b hb hl=>(z8n fun hm=>hq ((hn b hm).symm.trans hb)).trans hb,hx _ h.ost,hx _ h.osm,hx _ h.od,hx _ h.om,fun b hb=>hx _ (h.oov b hb),h.ne,h.dk⟩
theorem z8t (r:Nat):∃q,q≠0∧q≠r:=⟨r+1,by omega,by omega⟩
theorem z8u {c:Nat→Nat} {r q:Nat} {w:World} {ns:List Nat} (hc:Cl w c) (hn:Apart c r w ns):Cl w (ownN c ns q):=z8p hc hn.lt
theorem z8v {c:Nat→Nat} {r q:Nat} {w w':World} {ns:List Nat} (hq:q≠r) (h:Fr (fun b=>ownN c ns q b=r) w w'):Fr (fun b=>c b=r∧b∉ns) w w':=h.mono fun b _ e=>by
 unfold ownN at e
 split at e
 · exact absurd e hq
 · rename_i hm;exact⟨e,hm⟩
theorem z8w {c c1:Nat→Nat} {r q n:Nat} {ns:List Nat} (h:Ag n (ownN c ns q) c1) (hn:∀b∈ns,c b=r∧b<n):Ag n c (ownN c1 ns r)∧(∀b∈ns,c1 b=q):=by
 refine⟨fun b hb=>?_,fun b hb=>by rw[h b (hn b hb).2,z8m hb]⟩
 by_cases hm:b∈ns
 · rw[z8m hm,(hn b hm).1]
 · rw[z8n hm,h b hb,z8n hm]
theorem Fell.back {c:Nat→Nat} {r q:Nat} {w w':World} {dk:Nat} {D:DSt} {Q:DSt→Prop} {ns:List Nat} (h:Fell (ownN c ns q) r w w' dk D Q) (hq:q≠0) (hqr:q≠r) (hns:∀b∈ns,c b=r∧b<w.heap.size) (hs:w.heap.size≤w'.heap.size):Fell c r w w' dk D Q:=by
 obtain⟨a,c',m,D',b1,b2,b3,b4,b5,b6,b7⟩:=h
 have hb:=z8w b1 hns
 have hx:∀b,c' b=r→ownN c' ns r b=r:=fun b hb=>by unfold ownN;split<;>simp[hb]
 exact⟨a,ownN c' ns r,m,D',hb.1,z8p b2 fun b h=>Nat.lt_of_lt_of_le (hns b h).2 hs,b3.mono fun b hb' hl=>(z8n fun hm=>hq ((hb.2 b hm).symm.trans hb')).trans hb',hx _ b4,hx _ b5,b6,b7⟩
def SPutR (c:Nat→Nat) (r:Nat) (w:World) (st:Nat) (S:SSt) (D:DSt) (l:Bs) (ns:List Nat) (i err:Int) (w':World):Prop:=Fr (fun b=>c b=r∧b∉ns) w w'∧((err=0∧i=(S.first:Int)∧∃c',Ag w.heap.size c c'∧Cl w' c'∧StoreOk c' r w' st (S.set S.first 1) (D.tick.write S.first (pageB l)))∨(err=20∧i=0∧Fell c r w w' S.dk D (CutQ D)))
theorem z8x {c:Nat→Nat} {r:Nat} {w:World} {st:Nat} {S:SSt} {D:DSt} {v:Value} {l:Bs} {ns:List Nat} (h:StoreOk c r w st S D) (hal:Alive S D) (hr:r≠0) (hc:Cl w c) (hn:Apart c r w ns) (ho:D.opn.length<100000) (hv:BytesAt (Dt c) w v l) (hl:l.length≤8186) (hf:S.first≠0) (hf2:S.first<S.pages+2) :
 Calls Tryz.prog 169 #[.pointer (some ⟨st,0,none⟩),v] w fun e w'=>∃i err:Int,e=.returned (.tuple #[.int .i64 i,.int .i64 err])∧Hid (SPutR c r w st S D l ns i err w'):=by
 obtain⟨q,hq,hqr⟩:=z8t r
 refine(z56 (h.away (q:=q) hr hn) hal hr (z8u hc hn) ho (hv.mono fun b hb hl=>(z8n fun hm=>hr ((hn b hm).1.symm.trans hb)).trans hb) hl hf hf2).mono ?_
 rintro e w' ⟨i,err,rfl,H⟩
 obtain⟨f1,(⟨rfl,rfl,c1,a1,l1,s1⟩|⟨rfl,rfl,hf⟩)⟩:=H.out
 · have hb:=z8w a1 fun b hb=>⟨(hn b hb).1,hn.lt b hb⟩
   exact⟨_,0,rfl,zhd ⟨z8v hqr f1,.inl ⟨rfl,rfl,_,hb.1,z8p l1 fun b h=>Nat.lt_of_lt_of_le (hn.lt b h) f1.size,s1.back hq hb.2⟩⟩⟩
 · exact⟨0,20,rfl,zhd ⟨z8v hqr f1,.inr ⟨rfl,rfl,hf.back hq hqr (fun b hb=>⟨(hn b hb).1,hn.lt b hb⟩) f1.size⟩⟩⟩
theorem z8y {c:Nat→Nat} {r:Nat} {w:World} {st:Nat} {S:SSt} {D:DSt} {k:Nat} {ns:List Nat} (h:StoreOk c r w st S D) (hal:Alive S D) (hr:r≠0) (hn:Apart c r w ns) (hk:S.at_ k=1) :
 Calls Tryz.prog 171 #[.pointer (some ⟨st,0,none⟩),.int .i64 (k:Int)] w fun e w'=>e=.returned (.int .i64 0)∧StoreOk c r w' st (S.set k 2) D∧Fr (fun b=>c b=r∧b∉ns) w w':=by
 obtain⟨q,hq,hqr⟩:=z8t r
 refine(z57 (h.away (q:=q) hr hn) hal hr hk).mono ?_
 rintro e w' ⟨rfl,s1,f1⟩
 have s2:=s1.back (ns:=ns) hq (fun b hb=>z8m hb)
 have he:ownN (ownN c ns q) ns r=c:=by
  funext b
  by_cases hm:b∈ns
  · rw[z8m hm,(hn b hm).1]
  · rw[z8n hm,z8n hm]
 rw[he] at s2
 exact⟨rfl,s2,z8v hqr f1⟩
def SComRN (c:Nat→Nat) (r:Nat) (w:World) (st root:Nat) (S:SSt) (D:DSt) (ns:List Nat) (err:Int) (w':World):Prop:=Fr (fun b=>c b=r∧b∉ns) w w'∧((err=0∧∃c',Ag w.heap.size c c'∧Cl w' c'∧StoreOk c' r w' st (S.commit root) (dcommit D (S.num+1) root))∨(err=20∧Fell c r w w' S.dk D (ComQ D (S.num+1) root)))
theorem z8z {c:Nat→Nat} {r:Nat} {w:World} {st root:Nat} {R:Int} {S:SSt} {D:DSt} {ns:List Nat} (h:StoreOk c r w st S D) (hal:Alive S D) (hr:r≠0) (hc:Cl w c) (hn:Apart c r w ns) (ho:D.opn.length<100000) (hR:R=(root:Int)) (hroot:R=0∨¬R=0∧(aget R S.state).getD 0=1) (hrb:root<4611686018427387904) (hnu:S.num<4611686018427387904) :
 Calls Tryz.prog 151 #[.pointer (some ⟨st,0,none⟩),.int .i64 R] w fun e w'=>∃err:Int,e=.returned (.int .i64 err)∧Hid (SComRN c r w st root S D ns err w'):=by
 obtain⟨q,hq,hqr⟩:=z8t r
 refine(z5r (h.away (q:=q) hr hn) hal hr (z8u hc hn) ho hR hroot hrb hnu).mono ?_
 rintro e w' ⟨err,rfl,H⟩
 obtain⟨f1,(⟨rfl,c1,a1,l1,s1⟩|⟨rfl,hf⟩)⟩:=H.out
 · have hb:=z8w a1 fun b hb=>⟨(hn b hb).1,hn.lt b hb⟩
   exact⟨0,rfl,zhd ⟨z8v hqr f1,.inl ⟨rfl,_,hb.1,z8p l1 fun b h=>Nat.lt_of_lt_of_le (hn.lt b h) f1.size,s1.back hq hb.2⟩⟩⟩
 · exact⟨20,rfl,zhd ⟨z8v hqr f1,.inr ⟨rfl,hf.back hq hqr (fun b hb=>⟨(hn b hb).1,hn.lt b hb⟩) f1.size⟩⟩⟩
theorem StoreOk.apart {c:Nat→Nat} {r:Nat} {w w':World} {st:Nat} {S:SSt} {D:DSt} {ns:List Nat} (h:StoreOk c r w st S D) (hr:r≠0) (hn:Apart c r w ns) (hf:Fr (fun b=>b∈ns) w w'):StoreOk c r w' st S D:=by
 obtain⟨q,hq,hqr⟩:=z8t r
 have s1:=(h.away (q:=q) hr hn).fr hf (fun b hb e=>hqr (by rw[z8m hb] at e;exact e)) (fun b hb e=>hq (by rw[z8m hb] at e;exact e))
 have s2:=s1.back (ns:=ns) hq (fun b hb=>z8m hb)
 have he:ownN (ownN c ns q) ns r=c:=by
  funext b
  by_cases hm:b∈ns
  · rw[z8m hm,(hn b hm).1]
  · rw[z8n hm,z8n hm]
 rwa [he] at s2
end
section
def marks (l b:List Nat):List (Int×Int):=l.map fun k:Nat=>((k:Int),if k∈b then(2:Int) else 1)
abbrev ones (l:List Nat):List (Int×Int):=marks l []
theorem z90 (k:Nat) (b:List Nat):∀l:List Nat,aget (k:Int) (marks l b)=if k∈l then some (if k∈b then 2 else 1) else none
 |[]=>by simp[marks,aget]
 | j :: l => by
   have ih:=z90 k b l
   simp only[marks,List.map_cons,aget] at ih⊢
   by_cases h:k=j
   · subst h;simp
   · have h1:¬(j:Int)=(k:Int):=by omega
     rw[if_neg h1,ih]
     simp[h]
theorem z91 {k:Nat}:∀{l:List Nat},k∉l→aset (k:Int) 1 (ones l)=ones (l++[k])
 |[],_=>by simp[marks,aset]
 | j :: l, h => by
   have ih:=z91 (k:=k) (l:=l) (fun hm=>h (List.mem_cons_of_mem _ hm))
   have h1:¬(j:Int)=(k:Int):=by intro e;exact h (by rw[show j=k by omega];simp)
   simp only[ones,marks,List.map_cons,aset,List.cons_append] at ih⊢
   rw[if_neg h1,ih]
theorem z92 (l m b:List Nat):marks (l++m) b=marks l b++marks m b:=by simp[marks]
theorem z93 {m b:List Nat} (h:∀x∈m,x∉b):marks m b=ones m:=by
 unfold marks
 exact List.map_congr_left fun x hx=>by rw[if_neg (h x hx),if_neg (by simp)]
theorem z94 {k:Nat} {b:List Nat}:∀{l:List Nat},k∉l→aset (k:Int) 1 (marks l b)=marks l b++ones [k]
 |[],_=>by simp[marks,aset]
 | j :: l, h => by
   have ih:=z94 (k:=k) (b:=b) (l:=l) (fun hm=>h (List.mem_cons_of_mem _ hm))
   have h1:¬(j:Int)=(k:Int):=by intro e;exact h (by rw[show j=k by omega];simp)
   simp only[marks,List.map_cons,aset,List.cons_append] at ih⊢
   rw[if_neg h1,ih]
def Held (st:List (Int×Int)) (held:List Nat):Prop:=∃b,st=marks held b∧∀x∈b,x∈held
theorem Held.add {st:List (Int×Int)} {held:List Nat} {k:Nat} (h:Held st held) (hk:k∉held):aset (k:Int) 1 st=st++ones [k]∧Held (st++ones [k]) (held++[k]):=by
 obtain⟨b,rfl,hb⟩:=h
 refine⟨z94 hk,b,?_,fun x hx=>List.mem_append_left _ (hb x hx)⟩
 rw[z92,z93 (m:=[k]) (fun x hx e=>by simp at hx;subst hx;exact hk (hb _ e))]
theorem z95 {k:Nat} {b:List Nat}:∀{l:List Nat},l.Nodup→k∈l→aset (k:Int) 2 (marks l b)=marks l (k::b)
 |[],_,h=>by simp at h
 | j :: l, hn, h => by
   have hn2:=List.nodup_cons.1 hn
   by_cases e:j=k
   · subst e
     simp only[marks,List.map_cons,aset,if_true]
     congr 1
     · simp
     · refine List.map_congr_left fun x hx=>?_
       have:x≠j:=fun e=>hn2.1 (by rw[←e];exact hx)
       simp[this]
   · have h1:¬(j:Int)=(k:Int):=by omega
     have hm:k∈l:=by rcases List.mem_cons.1 h with h|h;exact absurd h.symm e;exact h
     have ih:=z95 (b:=b) hn2.2 hm
     simp only[marks,List.map_cons,aset] at ih⊢
     rw[if_neg h1,ih]
     simp[e]
theorem z96 (b:List Nat):∀l:List Nat,(marks l b).filter (fun p=>decide (p.2≠2))=ones (l.filter fun k=>decide (k∉b))
 |[]=>rfl
 | j :: l => by
   have ih:=z96 b l
   simp only[ones,marks,List.map_cons] at ih⊢
   by_cases h:j∈b
   · simp only[h,if_true,List.filter_cons,ne_eq,not_true,decide_false,Bool.false_eq_true,if_false,ih]
   · simp only[h,if_false,List.filter_cons,ih]
     simp
theorem z97 (k:Nat):∀l:List Nat,mdel (vmap (ones l)) (k:Int)=vmap (ones (l.filter fun j=>decide (j≠k)))
 |[]=>rfl
 | j :: l => by
   have ih:=z97 k l
   simp only[mdel,vmap,ones,marks,List.map_cons] at ih⊢
   by_cases h:j=k
   · subst h
     simp only[List.filter_cons,ne_eq,not_true,decide_false,Bool.false_eq_true,if_false,ih]
   · have h1:¬(j:Int)=(k:Int):=by omega
     simp only[List.filter_cons,ne_eq,h,h1,not_false_eq_true,decide_true,if_true,List.map_cons,ih]
theorem z98 (l b:List Nat):(marks l b).length=l.length:=by simp[marks]
theorem z99:∀{a b:List Nat},a.Nodup→(∀x∈a,x∈b)→a.length≤b.length
 |[],_,_,_=>Nat.zero_le _
 | x :: a, b, hn, h => by
   have hn2:=List.nodup_cons.1 hn
   have hx:=h x (by simp)
   have:=z99 (a:=a) (b:=b.erase x) hn2.2 fun y hy=>(List.mem_erase_of_ne (fun e=>hn2.1 (by rw[←e];exact hy))).2 (h y (List.mem_cons_of_mem _ hy))
   rw[List.length_erase_of_mem hx] at this
   have h0:0<b.length:=List.length_pos_of_mem hx
   simp only[List.length_cons];omega
theorem z9a (S:SSt):∀(n k:Nat),1≤k→(S.freeFrom k n=0∧∀j,k≤j→j<k+n→S.at_ j≠0)∨(k≤S.freeFrom k n∧S.freeFrom k n<k+n∧S.at_ (S.freeFrom k n)=0)
 |0,k,_=>.inl ⟨rfl,fun j h1 h2=>by omega⟩
 | n + 1, k, hk => by
   by_cases h:S.at_ k=0
   · refine .inr ?_
     unfold SSt.freeFrom
     rw[if_pos h]
     exact⟨Nat.le_refl _,by omega,h⟩
   · have ih:=z9a S n (k+1) (by omega)
     unfold SSt.freeFrom
     rw[if_neg h]
     rcases ih with⟨h1,h2⟩|⟨h1,h2,h3⟩
     · refine .inl ⟨h1,fun j hj hj2=>?_⟩
       by_cases e:j=k
       · rw[e];exact h
       · exact h2 j (by omega) (by omega)
     · exact .inr ⟨by omega,by omega,h3⟩
theorem z9b {S:SSt} {l b:List Nat} (hs:S.state=marks l b) (hl:l.length<S.pages):2≤S.first∧S.first<S.pages+2∧S.first∉l:=by
 rcases z9a S S.pages 2 (by omega) with⟨h1,h2⟩|⟨h1,h2,h3⟩
 · exfalso
   have hn:((List.range S.pages).map (·+2)).Nodup:=by
    refine List.Pairwise.map _ (fun a b h=>?_) (List.nodup_range (n:=S.pages))
    simpa using h
   have:=z99 hn (b:=l) fun x hx=>by
    obtain⟨y,hy,rfl⟩:=List.mem_map.1 hx
    have hy2:=List.mem_range.1 hy
    have:=h2 (y+2) (by omega) (by omega)
    unfold SSt.at_ at this
    rw[hs,z90] at this
    split at this
    · assumption
    · exact absurd rfl this
   simp at this;omega
 · refine⟨h1,by unfold SSt.first;omega,fun hm=>?_⟩
   unfold SSt.at_ at h3
   rw[hs,z90,if_pos (show S.freeFrom 2 S.pages∈l from hm)] at h3
   simp only[Option.getD_some] at h3
   split at h3<;>cases h3
theorem z9c {S:SSt} {l b:List Nat} (hs:S.state=marks l b) (k:Nat):S.at_ k=if k∈l then(if k∈b then 2 else 1) else 0:=by
 unfold SSt.at_
 rw[hs,z90]
 split<;>rfl
end
end Go.Proofs.YtidalepbkljkpaaGreat
namespace Go.H
section
def inR (lo hi:List UInt8) (x:KV):Bool:=(decide (lo=[]) || decide (bcmp lo x.1≤0)) && (decide (hi=[]) || decide (bcmp x.1 hi<0))
def rangeL (lo hi:List UInt8) (l:List KV):List KV:=l.filter (inR lo hi)
def addR (n:Nat) (out r:List KV):List KV:=out++r.take (n-out.length)
theorem z9d (n:Nat) (out:List KV):addR n out []=out:=by simp[addR]
theorem z9e {n:Nat} {out:List KV} (h:n≤out.length) (r:List KV):addR n out r=out:=by simp[addR,Nat.sub_eq_zero_of_le h]
theorem z9f (n:Nat) (out a b:List KV):addR n (addR n out a) b=addR n out (a++b):=by
 unfold addR
 rw[List.take_append,List.append_assoc]
 congr 2
 simp only[List.length_append,List.length_take]
 congr 1
 omega
theorem z9g {n:Nat} {out:List KV} (h:out.length<n) (x:KV):addR n out [x]=out++[x]:=by
 unfold addR
 rw[List.take_of_length_le (by simp;omega)]
theorem z9h (lo hi:List UInt8) (a b:List KV):rangeL lo hi (a++b)=rangeL lo hi a++rangeL lo hi b:=by simp[rangeL]
theorem z9i {lo hi:List UInt8} {l:List KV} (h0:lo≠[]) (h:∀z∈l,bcmp z.1 lo<0):rangeL lo hi l=[]:=by
 refine List.filter_eq_nil_iff.2 fun z hz=>?_
 have:=h z hz
 have h2:=z6g z.1 lo
 have h3:¬bcmp lo z.1≤0:=by omega
 simp[inR,h0,h3]
theorem z9j {lo hi:List UInt8} {l:List KV} (h0:hi≠[]) (h:∀z∈l,bcmp hi z.1≤0):rangeL lo hi l=[]:=by
 refine List.filter_eq_nil_iff.2 fun z hz=>?_
 have:=h z hz
 have h2:=z6g z.1 hi
 have h3:¬bcmp z.1 hi<0:=by omega
 simp[inR,h0,h3]
theorem z9k:∀{l:List KV} {fs:List (List KV)} {i:Nat} (h:i<l.length) (h2:i<fs.length),interH (l.take (i+1)) (fs.take (i+1))=interH (l.take i) (fs.take i)++(fs[i]++[l[i]])
 |[],_,_,h,_=>by simp at h
 |_::_,[],_,_,h=>by simp at h
 |x::l,f::fs,0,_,_=>by simp[interH]
 | x :: l, f :: fs, i + 1, h, h2 => by
   have:=z9k (l:=l) (fs:=fs) (i:=i) (by simpa using h) (by simpa using h2)
   simp[interH,this]
theorem z9l {l:List KV} {fs:List (List KV)} {i:Nat} (h:fs.length=l.length+1) (hs:Sorted (inter l fs)) (hi:i≤l.length) :
 inter l fs=interH (l.take i) (fs.take i)++((fs[i]'(by omega))++interT (l.drop i) (fs.drop (i+1)))∧Sorted (fs[i]'(by omega))∧
  ∀hl:i<l.length,(∀z∈fs[i]'(by omega),klt z l[i])∧∀z∈interT (l.drop i) (fs.drop (i+1)),bcmp l[i].1 z.1≤0:=by
 have e:inter l fs=interH (l.take i) (fs.take i)++((fs[i]'(by omega))++interT (l.drop i) (fs.drop (i+1))):=by
  have:=z6w (l.drop i) (fs[i]'(by omega)) (fs.drop (i+1)) (l1:=l.take i) (f1:=fs.take i) (by simp;omega)
  rw[←this,List.take_append_drop,←List.drop_eq_getElem_cons,List.take_append_drop]
 rw[e] at hs
 have p:=(List.pairwise_append.1 hs).2.1
 have p2:=List.pairwise_append.1 p
 refine⟨e,p2.1,fun hl=>?_⟩
 have hd:interT (l.drop i) (fs.drop (i+1))=l[i]::((fs[i+1]'(by omega))++interT (l.drop (i+1)) (fs.drop (i+2))):=by
  rw[List.drop_eq_getElem_cons hl,List.drop_eq_getElem_cons (show i+1<fs.length by omega)];rfl
 refine⟨fun z hz=>p2.2.2 z hz l[i] (by rw[hd];simp),fun z hz=>?_⟩
 have p3:=p2.2.1
 rw[hd] at hz p3
 rcases List.mem_cons.1 hz with rfl|hz
 · rw[z6e];exact Int.le_refl _
 · exact Int.le_of_lt ((List.pairwise_cons.1 p3).1 z hz)
theorem z9m:∀(l:List KV) (n:Nat),interT l (List.replicate n ([]:List KV))=l.take n
 |[],n=>by cases n<;>simp[interT,List.replicate]
 |x::l,0=>by simp[interT]
 |x::l,n+1=>by simp[interT,List.replicate,z9m l n]
theorem z9n (l:List KV):inter l (List.replicate (l.length+1) [])=l:=by
 simp[inter,List.replicate,z9m]
end
section
open Go.RowKit
inductive PairCells (F:Nat→Prop) (w:World):List Value→List KV→Prop
 |nil:PairCells F w [] []
 |cons {x:KV} {kv vv:Value} {xs:List Value} {l:List KV}:BytesAt F w kv x.1→BytesAt F w vv x.2→PairCells F w xs l→PairCells F w (.int .i64 0::kv::vv::xs) (x::l)
namespace PairCells
variable {F F' C : Nat → Prop} {w w' : World}
theorem fr (hf:Fr C w w') (hd:∀b,F b→¬C b):∀{xs:List Value} {l:List KV},PairCells F w xs l→PairCells F w' xs l
 |_,_,.nil=>.nil
 |_,_,.cons h1 h2 h3=>.cons (h1.fr hf hd) (h2.fr hf hd) (fr hf hd h3)
theorem mono (hF:∀b,F b→b<w.heap.size→F' b):∀{xs:List Value} {l:List KV},PairCells F w xs l→PairCells F' w xs l
 |_,_,.nil=>.nil
 |_,_,.cons h1 h2 h3=>.cons (h1.mono hF) (h2.mono hF) (mono hF h3)
theorem append {ys:List Value} {m:List KV} (k:PairCells F w ys m):∀{xs:List Value} {l:List KV},PairCells F w xs l→PairCells F w (xs++ys) (l++m)
 |_,_,.nil=>k
 |_,_,.cons h1 h2 h3=>.cons h1 h2 (append k h3)
theorem length:∀{xs:List Value} {l:List KV},PairCells F w xs l→xs.length=l.length*3
 |_,_,.nil=>rfl
 |_,_,.cons h1 h2 h3=>by have:=length h3;simp only[List.length_cons];omega
theorem at_:∀{xs:List Value} {l:List KV} (i:Nat) (hi:i<l.length),PairCells F w xs l→∃kv vv,xs[i*3]?=some (.int .i64 0)∧xs[i*3+1]?=some kv∧xs[i*3+2]?=some vv∧BytesAt F w kv l[i].1∧BytesAt F w vv l[i].2
 |_,_,i,hi,.nil=>by simp at hi
 |_,_,0,hi,.cons h1 h2 h3=>⟨_,_,rfl,rfl,rfl,h1,h2⟩
 | _, _, i + 1, hi, .cons h1 h2 h3 => by
   have:=at_ i (by simpa using hi) h3
   rw[show(i+1)*3=i*3+1+1+1 by omega]
   exact this
end PairCells
def SndU (uT:Nat) (F:Nat→Prop) (w:World) (u:Value):Prop:=(∀A n k,u=.slice A n k→∃l,w.ownsRow 0 uT 1 u n l)∧∀b,u.ownBlock=some b→F b
theorem SndU.mono {uT:Nat} {F F':Nat→Prop} {w:World} {u:Value} (h:SndU uT F w u) (hF:∀b,F b→b<w.heap.size→F' b):SndU uT F' w u:=
 ⟨h.1, fun b e => hF b (h.2 b e) (by
  cases u with
  | slice A n k =>
    obtain⟨l,hl⟩:=h.1 A n k rfl
    exact(hl.lt b e).2
  |_=>simp[Value.ownBlock] at e)⟩
theorem SndU.fr {uT:Nat} {F C:Nat→Prop} {w w':World} {u:Value} (h:SndU uT F w u) (hf:Fr C w w') (hd:∀b,F b→¬C b):SndU uT F w' u:=
 ⟨fun A n k e => by
  obtain⟨l,hl⟩:=h.1 A n k e
  exact⟨l,z0m hl hf (fun b hb=>hd b (h.2 b hb))⟩,h.2⟩
theorem SndU.int (uT:Nat) (F:Nat→Prop) (w:World) (i:IntKind) (n:Int):SndU uT F w (.int i n):=⟨fun _ _ _ e=>(by cases e),fun b e=>(by simp[Value.ownBlock] at e)⟩
theorem SndU.own {uT B n:Nat} {F:Nat→Prop} {w:World} {u:Value} {l:List Value} (h:w.ownsRow B uT 1 u n l) (hF:∀b,u.ownBlock=some b→F b):SndU uT F w u:=by
 refine⟨fun A n' k e=>⟨l,z0n (B:=B) ?_ (fun b _=>Nat.zero_le _)⟩,hF⟩
 obtain⟨A',k',e',_⟩:=z0o h
 rw[e'] at e
 injection e with _ e2 _
 rw[←e2];exact h
def OutAt (pT uT:Nat) (B:Nat) (c:Nat→Nat) (q:Nat) (w:World) (v:Value) (L:List KV):Prop:=
 ∃xs,w.ownsRow 0 pT 3 v L.length xs∧PairCells (fun b=>c b=0∧B≤b) w xs L∧(∀b,v.ownBlock=some b→c b=q∧B≤b)∧∀u∈xs,SndU uT (fun b=>c b=0∧B≤b) w u
theorem OutAt.fr {pT uT B:Nat} {C:Nat→Prop} {c:Nat→Nat} {q:Nat} {w w':World} {v:Value} {L:List KV} (h:OutAt pT uT B c q w v L) (hf:Fr C w w') (h1:∀b,C b→c b≠q) (h2:∀b,C b→c b≠0):OutAt pT uT B c q w' v L:=by
 obtain⟨xs,a,b,e,s⟩:=h
 exact⟨xs,z0m a hf (fun b hb k=>h1 _ k (e b hb).1),b.fr hf (fun b hb k=>h2 _ k hb.1),e,fun u hu=>(s u hu).fr hf (fun b hb k=>h2 _ k hb.1)⟩
theorem OutAt.fr0 {pT uT B:Nat} {c:Nat→Nat} {q:Nat} {w w':World} {v:Value} {L:List KV} (h:OutAt pT uT B c q w v L) (hf:Fr C0 w w'):OutAt pT uT B c q w' v L:=h.fr hf (fun _ k=>k.elim) (fun _ k=>k.elim)
theorem OutAt.form {pT uT B:Nat} {c:Nat→Nat} {q:Nat} {w:World} {v:Value} {L:List KV} (h:OutAt pT uT B c q w v L):∃A cp,v=.slice A L.length cp∧(∀a,A=some a→∃g,a=⟨g,0,none⟩):=by
 obtain⟨xs,a,_⟩:=h;exact z0o a
theorem OutAt.frB {pT uT B:Nat} {C:Nat→Prop} {c:Nat→Nat} {q:Nat} {w w':World} {v:Value} {L:List KV} (h:OutAt pT uT B c q w v L) (hf:Fr C w w') (h1:∀b,C b→b<B):OutAt pT uT B c q w' v L:=by
 obtain⟨xs,a,b,e,s⟩:=h
 exact⟨xs,z0m a hf (fun b hb k=>by have:=h1 _ k;have:=(e b hb).2;omega),b.fr hf (fun b hb k=>by have:=h1 _ k;have:=hb.2;omega),e,fun u hu=>(s u hu).fr hf (fun b hb k=>by have:=h1 _ k;have:=hb.2;omega)⟩
theorem OutAt.lower {pT uT B B':Nat} {c:Nat→Nat} {q:Nat} {w:World} {v:Value} {L:List KV} (h:OutAt pT uT B c q w v L) (hB:B'≤B):OutAt pT uT B' c q w v L:=by
 obtain⟨xs,a,b,e,s⟩:=h
 exact⟨xs,a,b.mono fun b hb _=>⟨hb.1,by omega⟩,fun b hb=>⟨(e b hb).1,by have:=(e b hb).2;omega⟩,fun u hu=>(s u hu).mono fun b hb _=>⟨hb.1,by omega⟩⟩
theorem OutAt.nil (pT uT B:Nat) (c:Nat→Nat) (q:Nat) (w:World):OutAt pT uT B c q w (.slice none 0 0) []:=⟨[],World.ownsRow_nil _ _ _ _,.nil,fun b e=>by simp[Value.ownBlock] at e,by simp⟩
end
end Go.H
