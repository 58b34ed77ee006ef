import Derived.Test.YtidalepbkljkpaaGreatLocalSpaces03
import Derived.Test.YtidalepbkljkpaaGreatLocalSpaces33
import Derived.Test.YtidalepbkljkpaaGreatLocalSpaces16
import Derived.Test.YtidalepbkljkpaaGreatLocalSpaces45
import Derived.Test.YtidalepbkljkpaaGreatLocalSpaces46
import Derived.Test.YtidalepbkljkpaaGreatLocalSpaces47
import Derived.Test.YtidalepbkljkpaaGreatLocalSpaces42
import Derived.WalkMore
import Derived.Laws.IdiomStrings
import Derived.Test.YtidalepbkljkpaaGreatLocalSpaces43
import Derived.Test.YtidalepbkljkpaaGreatLocalSpaces32
set_option linter.all false
namespace Go.HS
open Go.RowKit Go.H
section
theorem zj4 (a b:ByteArray):(a == b)=decide (a=b):=by
 cases a with|mk a=>cases b with|mk b=>
 show(a == b)=_
 by_cases h:a=b<;>simp[h]
def kvp (p:ByteArray×Value):Value×Value:=(.string p.1,p.2)
structure Ent (es:Array MapEntry) (clock:Nat) (L:List (ByteArray×Value)):Prop where
 kv:es.toList.map (fun e=>(e.key,e.val))=L.map kvp
 keys:(L.map Prod.fst).Nodup
 born:(es.toList.map (·.born)).Nodup
 clock:∀e∈es.toList,e.born<clock
def MapIs (w:World) (m:Nat) (L:List (ByteArray×Value)):Prop:=∃es clock,w.heap[m]?=some (.map es clock)∧Ent es clock L
theorem MapIs.lt {w:World} {m:Nat} {L:List (ByteArray×Value)} (h:MapIs w m L):m<w.heap.size:=by
 obtain⟨es,c,h,_⟩:=h
 exact(Array.getElem?_eq_some_iff.1 h).1
theorem MapIs.fr {C:Nat→Prop} {w w':World} {m:Nat} {L:List (ByteArray×Value)} (h:MapIs w m L) (hf:Fr C w w') (hm:¬C m):MapIs w' m L:=by
 have hl:=h.lt
 obtain⟨es,c,h,h2⟩:=h
 exact⟨es,c,(hf.block m hl hm).trans h,h2⟩
theorem MapIs.made (w:World):MapIs (w.alloc (.map #[] 0)) w.heap.size []:=
 ⟨#[],0,heap_alloc_new w _,by simp,by simp,by simp,by simp⟩
def findIx (k:ByteArray):List (ByteArray×Value)→Nat→Option (Nat×Value)
 |[],_=>none
 |p::L,i=>if p.1=k then some (i,p.2) else findIx k L (i+1)
def mget (L:List (ByteArray×Value)) (k:ByteArray):Option Value:=(findIx k L 0).map (·.2)
def mset (L:List (ByteArray×Value)) (k:ByteArray) (v:Value):List (ByteArray×Value):=
 match findIx k L 0 with
 |some (i,_)=>L.set i (k,v)
 |none=>L++[(k,v)]
def mdel (L:List (ByteArray×Value)) (k:ByteArray):List (ByteArray×Value):=L.filter (fun p=>p.1≠k)
theorem zj5 (k:ByteArray):∀(es:List MapEntry) (L:List (ByteArray×Value)) (i:Nat),es.map (fun e=>(e.key,e.val))=L.map kvp→
 Instr.findNow .string (.string k) es i=some (findIx k L i)
 |[],[],i,_=>rfl
 |[],_::_,_,h=>by simp at h
 |_::_,[],_,h=>by simp at h
 | e :: es, p :: L, i, h => by
   simp only[List.map_cons,List.cons.injEq,kvp,Prod.mk.injEq] at h
   have ih:=zj5 k es L (i+1) h.2
   simp only[Instr.findNow,findIx,h.1.1,Instr.sameNow,h.1.2,if_true]
   by_cases hk:p.1=k
   · simp[hk,zj4]
   · have:(k == p.1)=false:=by rw[zj4];exact decide_eq_false fun h=>hk h.symm
     simp only[this,hk,if_false]
     exact ih
theorem z06 {k:ByteArray}:∀{L:List (ByteArray×Value)} {i j:Nat} {v:Value},findIx k L i=some (j,v)→∃n,j=i+n∧L[n]?=some (k,v)
 |[],_,_,_,h=>by simp[findIx] at h
 | p :: L, i, j, v, h => by
   unfold findIx at h
   split at h
   · rename_i hk
     simp only[Option.some.injEq,Prod.mk.injEq] at h
     exact⟨0,by omega,by simp[←hk,←h.2]⟩
   · obtain⟨n,h1,h2⟩:=z06 h
     exact⟨n+1,by omega,by simpa using h2⟩
theorem z07 {k:ByteArray}:∀{L:List (ByteArray×Value)} {i:Nat},findIx k L i=none↔∀p∈L,p.1≠k
 |[],_=>by simp[findIx]
 | p :: L, i => by
   unfold findIx
   split
   · rename_i hk;simp[hk]
   · rename_i hk;simp[hk,z07]
theorem z09:∀(es:List MapEntry) (L:List (ByteArray×Value)) (i:Nat) (k:ByteArray) (v u:Value),es.map (fun e=>(e.key,e.val))=L.map kvp→L[i]?=some (k,u)→
 (es.modify i fun e=>{ e with key:=.string k,val:=v }).map (fun e=>(e.key,e.val))=(L.set i (k,v)).map kvp
 | [], L, i, k, v, u, h, hi => by
   cases L with
   |nil=>simp at hi
   |cons=>simp at h
 |e::es,[],i,k,v,u,h,hi=>by simp at h
 | e :: es, p :: L, 0, k, v, u, h, hi => by
   simp only[List.map_cons,List.cons.injEq] at h
   simp[List.modify_cons,kvp,h.2]
 | e :: es, p :: L, i + 1, k, v, u, h, hi => by
   simp only[List.map_cons,List.cons.injEq] at h
   have:=z09 es L i k v u h.2 (by simpa using hi)
   simp only[List.modify_succ_cons,List.map_cons,List.set_cons_succ,this,h.1]
theorem z0a (es:List MapEntry) (i:Nat) (k v:Value):(es.modify i fun e=>{ e with key:=k,val:=v }).map (·.born)=es.map (·.born):=by
 induction es generalizing i with
 |nil=>simp
 |cons e es ih=>cases i<;>simp[List.modify_cons,ih]
theorem z0b:∀(L:List (ByteArray×Value)) (i:Nat) (k:ByteArray) (v u:Value),L[i]?=some (k,u)→(L.set i (k,v)).map Prod.fst=L.map Prod.fst
 |[],i,k,v,u,h=>by simp at h
 |p::L,0,k,v,u,h=>by simp at h;simp[h]
 |p::L,i+1,k,v,u,h=>by simp[z0b L i k v u (by simpa using h)]
theorem Ent.set {es:Array MapEntry} {c:Nat} {L:List (ByteArray×Value)} (he:Ent es c L) (k:ByteArray) (v:Value) :
 (∀i u,findIx k L 0=some (i,u)→Ent (es.modify i fun e=>{ e with key:=.string k,val:=v }) c (mset L k v))∧
 (findIx k L 0=none→Ent (es.push { key:=.string k,val:=v,born:=c }) (c+1) (mset L k v)):=by
 constructor
 · intro i u hf
   obtain⟨n,h1,h2⟩:=z06 hf
   obtain rfl:i=n:=by omega
   have hms:mset L k v=L.set i (k,v):=by unfold mset;rw[hf]
   rw[hms]
   have hb:=z0a es.toList i (.string k) v
   refine⟨?_,?_,?_,?_⟩
   · rw[Array.toList_modify];exact z09 _ _ _ _ _ _ he.kv h2
   · rw[z0b _ _ _ _ _ h2];exact he.keys
   · rw[Array.toList_modify,hb];exact he.born
   · intro e hm
     rw[Array.toList_modify] at hm
     have hm2:e.born∈(es.toList.map (·.born)):=by rw[←hb];exact List.mem_map.2 ⟨e,hm,rfl⟩
     obtain⟨e',h1,h2⟩:=List.mem_map.1 hm2
     rw[←h2];exact he.clock e' h1
 · intro hf
   have hms:mset L k v=L++[(k,v)]:=by unfold mset;rw[hf]
   rw[hms]
   have hnot:=z07.1 hf
   refine⟨?_,?_,?_,?_⟩
   · simp[he.kv,kvp]
   · rw[List.map_append,List.nodup_append]
     refine⟨he.keys,by simp,?_⟩
     intro a ha b hb
     simp only[List.map_cons,List.map_nil,List.mem_singleton] at hb
     obtain⟨p,h1,rfl⟩:=List.mem_map.1 ha
     rw[hb];exact hnot p h1
   · simp only[Array.toList_push,List.map_append,List.map_cons,List.map_nil,List.nodup_append]
     refine⟨he.born,by simp,?_⟩
     intro a ha b hb
     simp only[List.mem_singleton] at hb
     obtain⟨e,h1,rfl⟩:=List.mem_map.1 ha
     have:=he.clock e h1
     omega
   · intro e hm
     simp only[Array.toList_push,List.mem_append,List.mem_singleton] at hm
     rcases hm with hm|rfl
     · have:=he.clock e hm;omega
     · exact Nat.lt_succ_self _
theorem zj6 (n:Nat) (k:ByteArray):Instr.sameBits n (.string k) (.string k)=true:=by
 unfold Instr.sameBits;simp[zj4]
theorem zj7 {P:Program} {w:World} {T K E m:Nat} {L:List (ByteArray×Value)} (hT:P.underlying T=some (.map K E)) (hK:P.underlying K=some .string)
 (h:MapIs w m L) (k:ByteArray) (v:Value) :
 ∃o,(Instr.mapUpdate T (.map (some m)) (.string k) v).run P w=.ok () (World.putObj w m o)∧MapIs (World.putObj w m o) m (mset L k v):=by
 have hl:=h.lt
 obtain⟨es,c,hm,he⟩:=h
 have hf:=zj5 k es.toList L 0 he.kv
 have hc:∀b,(Instr.checkKey b 10000 K (.string k)).run P w=.ok () w:=by
  intro b;unfold Instr.checkKey;simp[run_underlying hK]
 simp only[Instr.mapUpdate,Sem.run_bind,run_underlying hT,Result.andThen_ok,Go.H.run_getObj_map hm,hc,Instr.findKey,run_underlying hK,hf]
 obtain⟨h1,h2⟩:=he.set k v
 cases hfi:findIx k L 0 with
 | none =>
   refine⟨_,?_,_,_,z02 hl,h2 hfi⟩
   simp only[Sem.run_pure,Result.andThen_ok]
   exact Go.H.run_setObj_map _ hm
 | some q =>
   obtain⟨i,u⟩:=q
   refine⟨_,?_,_,_,z02 hl,h1 i u hfi⟩
   obtain⟨n,hn1,hn2⟩:=z06 hfi
   obtain rfl:i=n:=by omega
   have hkey:((es[i]?).map (·.key)).getD (.string k)=.string k:=by
    have:(es.toList.map (fun e=>(e.key,e.val)))[i]?=(L.map kvp)[i]?:=by rw[he.kv]
    simp only[List.getElem?_map,hn2,Option.map_some,kvp] at this
    cases h:es[i]? with
    |none=>rfl
    | some e =>
      have h':es.toList[i]?=some e:=by simpa using h
      rw[h'] at this
      simp only[Option.map_some,Option.some.injEq,Prod.mk.injEq] at this
      simp[this.1]
   simp only[Sem.run_pure,Result.andThen_ok,hkey,Instr.keyThatStays,zj6,if_true]
   exact Go.H.run_setObj_map _ hm
theorem z0e:∀(es:List MapEntry) (L:List (ByteArray×Value)) (i:Nat),es.map (fun e=>(e.key,e.val))=L.map kvp→
 (es.eraseIdx i).map (fun e=>(e.key,e.val))=(L.eraseIdx i).map kvp
 |[],[],_,_=>rfl
 |[],_::_,_,h=>by simp at h
 |_::_,[],_,h=>by simp at h
 |e::es,p::L,0,h=>by simp at h;simpa using h.2
 | e :: es, p :: L, i + 1, h => by
   simp only[List.map_cons,List.cons.injEq] at h
   simp[z0e es L i h.2,h.1]
theorem z0f:∀(L:List (ByteArray×Value)) (i j:Nat) (k:ByteArray) (v:Value),(L.map Prod.fst).Nodup→findIx k L i=some (j,v)→L.eraseIdx (j-i)=mdel L k
 |[],_,_,_,_,_,h=>by simp[findIx] at h
 | p :: L, i, j, k, v, hn, h => by
   simp only[List.map_cons,List.nodup_cons] at hn
   unfold findIx at h
   split at h
   · rename_i hk
     simp only[Option.some.injEq,Prod.mk.injEq] at h
     obtain⟨rfl,_⟩:=h
     have:∀q∈L,q.1≠k:=fun q hq e=>hn.1 (List.mem_map.2 ⟨q,hq,by rw[e,hk]⟩)
     have hf:L.filter (fun q=>q.1≠k)=L:=List.filter_eq_self.2 (fun q hq=>by simpa using this q hq)
     simp[mdel,hk]
     simpa using hf.symm
   · rename_i hk
     obtain⟨n,h1,h2⟩:=z06 h
     have ih:=z0f L (i+1) j k v hn.2 h
     have e1:j-i=(j-(i+1))+1:=by omega
     rw[e1]
     simp only[List.eraseIdx_cons_succ,ih,mdel,List.filter_cons]
     simp[hk]
theorem z0g {L:List (ByteArray×Value)} {k:ByteArray} (h:findIx k L 0=none):mdel L k=L:=
 List.filter_eq_self.2 (fun q hq=>by simpa using z07.1 h q hq)
theorem Ent.del {es:Array MapEntry} {c:Nat} {L:List (ByteArray×Value)} (he:Ent es c L) (k:ByteArray) {i:Nat} {u:Value} (hf:findIx k L 0=some (i,u)) :
 Ent (es.eraseIdxIfInBounds i) c (mdel L k):=by
 have hL:=z0f L 0 i k u he.keys hf
 simp only[Nat.sub_zero] at hL
 obtain⟨n,hn1,hn2⟩:=z06 hf
 obtain rfl:i=n:=by omega
 have hlen:es.toList.length=L.length:=by have:=congrArg List.length he.kv;simpa using this
 have hlt:i<es.size:=by
  have:=(List.getElem?_eq_some_iff.1 hn2).1
  rw[←Array.length_toList,hlen];exact this
 have e:(es.eraseIdxIfInBounds i).toList=es.toList.eraseIdx i:=by
  simp[Array.eraseIdxIfInBounds,hlt]
 refine⟨?_,?_,?_,?_⟩
 · rw[e,←hL];exact z0e _ _ _ he.kv
 · unfold mdel;exact he.keys.sublist (List.Sublist.map _ (List.filter_sublist))
 · rw[e];exact he.born.sublist (List.Sublist.map _ (List.eraseIdx_sublist _ _))
 · intro x hx
   rw[e] at hx
   exact he.clock x (List.mem_of_mem_eraseIdx hx)
theorem zj8 {P:Program} {w:World} {T K E m ty:Nat} {L:List (ByteArray×Value)} {ats:Array TypeId} (ha:ats[0]?=some T) (hT:P.underlying T=some (.map K E)) (hK:P.underlying K=some .string)
 (h:MapIs w m L) (k:ByteArray) :
 ∃o,(Builtin.delete_ ats ty #[.map (some m),.string k]).run P w=.ok (.tuple #[]) (World.putObj w m o)∧MapIs (World.putObj w m o) m (mdel L k):=by
 have hl:=h.lt
 obtain⟨es,c,hm,he⟩:=h
 have hf:=zj5 k es.toList L 0 he.kv
 have hc:∀b,(Instr.checkKey b 10000 K (.string k)).run P w=.ok () w:=by
  intro b;unfold Instr.checkKey;simp[run_underlying hK]
 cases hfi:findIx k L 0 with
 | none =>
   refine⟨.map es c,?_,es,c,z02 hl,by rw[z0g hfi];exact he⟩
   simp[Builtin.delete_,ha,run_underlying hT,Go.H.run_getObj_map hm,hc,Instr.findKey,run_underlying hK,hf,hfi,Go.H.run_setObj_map _ hm]
 | some q =>
   obtain⟨i,u⟩:=q
   refine⟨.map (es.eraseIdxIfInBounds i) c,?_,_,c,z02 hl,he.del k hfi⟩
   simp[Builtin.delete_,ha,run_underlying hT,Go.H.run_getObj_map hm,hc,Instr.findKey,run_underlying hK,hf,hfi,Go.H.run_setObj_map _ hm]
theorem run_len_map {P:Program} {w:World} {T K E m ty:Nat} {L:List (ByteArray×Value)} {ats:Array TypeId} (ha:ats[0]?=some T) (hT:P.underlying T=some (.map K E)) (h:MapIs w m L) :
 (Builtin.len_ ats ty #[.map (some m)]).run P w=.ok (.int .i64 (L.length:Int)) w:=by
 obtain⟨es,c,hm,he⟩:=h
 have hlen:es.size=L.length:=by have:=congrArg List.length he.kv;simpa using this
 simp[Builtin.len_,ha,run_underlying hT,Go.H.run_getObj_map hm,goInt,hlen]
def aget {α:Type} (k:ByteArray):List (ByteArray×α)→Option α
 |[]=>none
 |p::L=>if p.1=k then some p.2 else aget k L
def aset {α:Type} (k:ByteArray) (v:α):List (ByteArray×α)→List (ByteArray×α)
 |[]=>[(k,v)]
 |p::L=>if p.1=k then(k,v)::L else p::aset k v L
theorem z20 (k:ByteArray):∀(L:List (ByteArray×Value)) (i:Nat),findIx k L i=(findIx k L 0).map (fun q=>(q.1+i,q.2))
 |[],_=>rfl
 | p :: L, i => by
   by_cases h:p.1=k
   · simp[findIx,h]
   · simp only[findIx,if_neg h]
     rw[z20 k L (i+1),z20 k L (0+1)]
     cases findIx k L 0<;>simp;omega
theorem z21 (k:ByteArray):∀L:List (ByteArray×Value),mget L k=aget k L
 |[]=>rfl
 | p :: L => by
   by_cases h:p.1=k
   · simp[mget,findIx,aget,h]
   · rw[aget,if_neg h,←z21 k L]
     simp only[mget,findIx,if_neg h]
     rw[z20 k L 1]
     cases findIx k L 0<;>simp
theorem z22 (k:ByteArray) (v:Value):∀L:List (ByteArray×Value),mset L k v=aset k v L
 |[]=>rfl
 | p :: L => by
   by_cases h:p.1=k
   · simp[mset,findIx,aset,h]
   · rw[aset,if_neg h,←z22 k v L]
     simp only[mset,findIx,if_neg h]
     rw[z20 k L 1]
     cases hq:findIx k L 0<;>simp
theorem z23 {P:Program} {w:World} {o:Oper} {a:Act} {K:Act→World→Prop} {Q:Exit→Act→World→Prop} {T Kt E m:Nat} {L:List (ByteArray×Value)} {k:ByteArray} {v:Value}
 (hT:P.underlying T=some (.map Kt E)) (hK:P.underlying Kt=some .string) (mo ko vo:Operand) (ho:o.op=.mapUpdate T mo ko vo) (hm:a.eval mo=.map (some m)) (hk:a.eval ko=.string k) (hv:a.eval vo=v)
 (h:MapIs w m L) (hw:∀w',MapIs w' m (aset k v L)→Fr (fun b=>b=m) w w'→K (a.put o.dst undef) w'):o.wp P a w K Q:=by
 obtain⟨ob,h1,h2⟩:=zj7 hT hK h k v
 unfold Oper.wp execOp
 simp only[ho,hm,hk,hv,Sem.run_bind,Sem.run_pure,Result.andThen_ok,h1]
 rw[z22] at h2
 exact hw _ h2 ((Fr.refl (fun b=>b=m) w).putObj (.inr rfl) ob)
theorem z24 {P:Program} {w:World} {ops:Array Oper} {rest:List Oper} {o:Oper} {a:Act} {Q:Exit→Act→World→Prop} {T Kt E m:Nat} {L:List (ByteArray×Value)} {k:ByteArray} {v:Value} (hgd:o.guard=none)
 (hT:P.underlying T=some (.map Kt E)) (hK:P.underlying Kt=some .string) (mo ko vo:Operand) (ho:o.op=.mapUpdate T mo ko vo) (hm:a.eval mo=.map (some m)) (hk:a.eval ko=.string k) (hv:a.eval vo=v)
 (h:MapIs w m L) (hw:∀w',MapIs w' m (aset k v L)→Fr (fun b=>b=m) w w'→wpList P ops Q rest (a.put o.dst undef) w'):wpList P ops Q (o::rest) a w:=
 wpList_plain hgd fun K hK'=>z23 hT hK mo ko vo ho hm hk hv h fun w' h1 h2=>hK' _ _ (hw w' h1 h2)
theorem z25 {P:Program} {w:World} {o:Oper} {a:Act} {K:Act→World→Prop} {Q:Exit→Act→World→Prop} {T Kt E m t2:Nat} {L:List (ByteArray×Value)} {k:ByteArray}
 (hT:P.underlying T=some (.map Kt E)) (hK:P.underlying Kt=some .string) (mo ko:Operand) (ho:o.op=.call { callee:=.builtin .delete,args:=#[mo,ko],argTypes:=#[T,t2] }) (hm:a.eval mo=.map (some m)) (hk:a.eval ko=.string k)
 (h:MapIs w m L) (hw:∀w',MapIs w' m (mdel L k)→Fr (fun b=>b=m) w w'→K (a.put o.dst (.tuple #[])) w'):o.wp P a w K Q:=by
 obtain⟨ob,h1,h2⟩:=zj8 (P:=P) (ats:=#[T,t2]) (ty:=o.type) rfl hT hK h k
 unfold Oper.wp execOp
 simp only[ho,resolve,invoke,builtin,Sem.run_bind,Sem.run_pure,Result.andThen_ok,List.map_toArray,List.map_cons,List.map_nil,hm,hk,h1]
 exact hw _ h2 ((Fr.refl (fun b=>b=m) w).putObj (.inr rfl) ob)
theorem z26 {P:Program} {w:World} {ops:Array Oper} {rest:List Oper} {o:Oper} {a:Act} {Q:Exit→Act→World→Prop} {T Kt E m t2:Nat} {L:List (ByteArray×Value)} {k:ByteArray} (hgd:o.guard=none)
 (hT:P.underlying T=some (.map Kt E)) (hK:P.underlying Kt=some .string) (mo ko:Operand) (ho:o.op=.call { callee:=.builtin .delete,args:=#[mo,ko],argTypes:=#[T,t2] }) (hm:a.eval mo=.map (some m)) (hk:a.eval ko=.string k)
 (h:MapIs w m L) (hw:∀w',MapIs w' m (mdel L k)→Fr (fun b=>b=m) w w'→wpList P ops Q rest (a.put o.dst (.tuple #[])) w'):wpList P ops Q (o::rest) a w:=
 wpList_plain hgd fun K hK'=>z25 hT hK mo ko ho hm hk h fun w' h1 h2=>hK' _ _ (hw w' h1 h2)
end
section
inductive MapV (F:Nat→Prop) (w:World):List (ByteArray×Value)→List KV→Prop
 |nil:MapV F w [] []
 |cons {k v:List UInt8} {u:Value} {A:List (ByteArray×Value)} {L:List KV}:BytesAt F w u v→MapV F w A L→MapV F w ((⟨k.toArray⟩,u)::A) ((k,v)::L)
end
end Go.HS
namespace Go.Proofs.YtidalepbkljkpaaGreat
section
open Go.RowKit Go.H Go.Shelf Go.Sort
set_option maxHeartbeats 1000000
set_option maxRecDepth 100000
@[go_sem] theorem zj9 (w : World) : (Instr.makeMap 140 none).run Tryz.prog w = .ok (.map (some w.heap.size)) (w.alloc (.map #[] 0)) := by kernel_rfl
def pairI (s:Nat) (D:List KV) (i:Nat):SKV:=((s:Int),(D.getD i ([],[])).1,(D.getD i ([],[])).2)
theorem zja:SlTy Tryz.prog 29 42 3 56:=z2n Tryz.underlying29 (z:=.agg #[.int .i64 0,.slice none 0 0,.slice none 0 0]) (by kernel_rfl) rfl (by decide)
end
section
open Go.RowKit Go.H
theorem zjb {p:KV→Bool} (hp:∀a b:KV,a.1=b.1→p a=p b) {x:KV} (hx:p x=false):∀L:List KV,(putL x L).filter p=L.filter p
 |[]=>by simp[putL,hx]
 | y :: L => by
   have ih:=zjb hp hx L
   simp only[putL]
   split
   · rw[List.filter_cons_of_neg (by simp[hx])]
   · split
     · rename_i h2
       have e:=hp x y (z6f h2)
       rw[List.filter_cons_of_neg (by simp[hx]),List.filter_cons_of_neg (by rw[←e];simp[hx])]
     · cases hy:p y with
       |true=>rw[List.filter_cons_of_pos hy,List.filter_cons_of_pos hy,ih]
       |false=>rw[List.filter_cons_of_neg (by simp[hy]),List.filter_cons_of_neg (by simp[hy]),ih]
theorem zjc {p:KV→Bool} (hp:∀a b:KV,a.1=b.1→p a=p b) {x:KV} (hx:p x=false):∀L:List KV,(delL x.1 L).filter p=L.filter p
 |[]=>by simp[delL]
 | y :: L => by
   have ih:=zjc hp hx L
   simp only[delL]
   split
   · rename_i h2
     have e:=hp x y (z6f h2)
     rw[List.filter_cons_of_neg (by rw[←e];simp[hx])]
   · cases hy:p y with
     |true=>rw[List.filter_cons_of_pos hy,List.filter_cons_of_pos hy,ih]
     |false=>rw[List.filter_cons_of_neg (by simp[hy]),List.filter_cons_of_neg (by simp[hy]),ih]
theorem zjd (x:KV):∀L:List KV,getL x.1 (putL x L)=some x.2
 |[]=>by simp[putL,getL,z6e]
 | y :: L => by
   have ih:=zjd x L
   simp only[putL]
   split
   · simp[getL,z6e]
   · split
     · simp[getL,z6e]
     · rename_i h1 h2
       simp only[getL]
       rw[if_neg h2,ih]
theorem zje {k:Bs} (x:KV) (hk:k≠x.1):∀L:List KV,getL k (putL x L)=getL k L
 | [] => by
   simp only[putL,getL]
   rw[if_neg (fun h=>hk (z6f h))]
 | y :: L => by
   have ih:=zje x hk L
   have hkx:¬bcmp k x.1=0:=fun h=>hk (z6f h)
   simp only[putL]
   split
   · simp only[getL]
     rw[if_neg hkx]
   · split
     · rename_i h2
       have e:=z6f h2
       simp only[getL]
       rw[if_neg hkx,if_neg (fun h=>hk ((z6f h).trans e.symm))]
     · simp only[getL]
       rw[ih]
theorem zjf {k j:Bs} (hk:k≠j):∀L:List KV,getL k (delL j L)=getL k L
 |[]=>by simp[delL]
 | y :: L => by
   have ih:=zjf hk L
   simp only[delL]
   split
   · rename_i h2
     have e:=z6f h2
     simp only[getL]
     rw[if_neg (fun h=>hk ((z6f h).trans e.symm))]
   · simp only[getL]
     rw[ih]
theorem zjg (k:Bs):∀{L:List KV},Sorted L→getL k (delL k L)=none
 |[],_=>by simp[delL,getL]
 | y :: L, h => by
   have hp:=List.pairwise_cons.1 h
   have ih:=zjg k hp.2
   simp only[delL]
   split
   · rename_i h2
     refine z6o fun z hz=>?_
     have h3:=hp.1 z hz
     unfold klt at h3
     rw[z6f h2]
     exact h3
   · rename_i h2
     simp only[getL]
     rw[if_neg h2,ih]
def lastK:List Chg→Bs→Option Chg
 |[],_=>none
 | c :: l, k => match lastK l k with
   |some x=>some x
   |none=>if c.key=k then some c else none
theorem zjh (k:Bs) (c:Chg):∀l:List Chg,lastK (l++[c]) k=if c.key=k then some c else lastK l k
 |[]=>by simp[lastK]
 | x :: l => by
   rw[List.cons_append,lastK,zjh k c l,lastK]
   by_cases h:c.key=k
   · rw[if_pos h,if_pos h]
   · rw[if_neg h,if_neg h]
theorem zji (k:Bs) (B:List Chg) {y:Chg} (h:lastK B k=some y):∀A:List Chg,lastK (A++B) k=some y
 |[]=>h
 | x :: A => by
   rw[List.cons_append,lastK,zji k B h A]
theorem zjj {s:Nat} {k:Bs} (hs:s<16):∀(l:List Chg) (La:List KV),Sorted La→(∀x∈La,locKey x.1)→(∀x∈l,okC x∧x.space=(s:Int))→getL (pk s k) (foldC La l)=(match lastK l k with|some c=>if c.gone then none else some c.value|none=>getL (pk s k) La)
 |[],La,_,_,_=>rfl
 | c :: l, La, hso, hkl, hl => by
   obtain⟨hc,hcs⟩:=hl c (by simp)
   obtain⟨h1,h2⟩:=zfx hso hkl hc
   have ih:=zjj (k:=k) hs l (stepC La c) h1 h2 (fun x hx=>hl x (List.mem_cons_of_mem _ hx))
   have h3:foldC La (c::l)=foldC (stepC La c) l:=rfl
   rw[h3,ih,lastK]
   cases lastK l k with
   |some x=>rfl
   | none =>
     have hkc:keyC c=pk s c.key:=by unfold keyC;rw[hcs];rfl
     simp only[]
     unfold stepC
     rw[hkc]
     by_cases h:c.key=k
     · subst h
       rw[if_pos rfl]
       cases hg:c.gone with
       |true=>simpa [hg] using zjg (pk s c.key) hso
       |false=>simpa [hg] using zjd (pk s c.key,c.value) La
     · rw[if_neg h]
       have hne:pk s k≠pk s c.key:=fun e=>h (zfo (by omega) (by omega) e).2.symm
       cases hg:c.gone with
       |true=>simpa [hg] using zjf hne La
       |false=>simpa [hg] using zje (pk s c.key,c.value) hne La
theorem zjk {s:Nat} {k:Bs} {La:List KV} {pos:Nat} {c:Chg} (hs:s<16) (hso:Sorted La) (hkl:∀x∈La,locKey x.1) (l:List Chg) (hl:∀x∈l,okC x∧x.space=(s:Int)) (hc:lastK l k=some c):getL (pk s k) (appL La l pos)=if c.gone then none else some c.value:=by
 unfold appL
 have hne:pk s k≠([16]:Bs):=fun e=>by
  have:=(zfo (t:=16) (m:=[]) (by omega) (by omega) e).1
  omega
 rw[zje _ hne,zjj hs l La hso hkl hl,hc]
def othL (s:Nat) (La:List KV):List SKV:=((rangeL [] [16] La).map spK).filter fun y=>decide (y.1≠(s:Int))
theorem zjl (s:Nat) (La:List KV):othL s La=(La.filter fun x=>decide ((spK x).1≠(s:Int)) && inR [] [16] x).map spK:=by
 unfold othL rangeL
 rw[List.filter_map,List.filter_filter]
 rfl
theorem zjm {s:Nat} {La:List KV} {pos:Nat} (hs:s<16) (l:List Chg) (hl:∀x∈l,okC x∧x.space=(s:Int)):othL s (appL La l pos)=othL s La:=by
 have hp:∀a b:KV,a.1=b.1→(decide ((spK a).1≠(s:Int)) && inR [] [16] a)=(decide ((spK b).1≠(s:Int)) && inR [] [16] b):=fun a b e=>by unfold spK inR;rw[e]
 have hk:∀(k v:Bs),(decide ((spK (pk s k,v)).1≠(s:Int)) && inR [] [16] (pk s k,v))=false:=fun k v=>by
  have:(spK (pk s k,v)).1=(s:Int):=by
   unfold spK pk
   simp only[List.headD_cons]
   rw[UInt8.toNat_ofNat_of_lt' (by show s<256;omega)]
  rw[this]
  simp
 have hf:∀l:List Chg,(∀x∈l,okC x∧x.space=(s:Int))→∀La:List KV,(foldC La l).filter (fun x=>decide ((spK x).1≠(s:Int)) && inR [] [16] x)=La.filter (fun x=>decide ((spK x).1≠(s:Int)) && inR [] [16] x):=fun l=>by
  induction l with
  |nil=>exact fun _ _=>rfl
  | cons c l ih =>
    intro hl La
    have h1:foldC La (c::l)=foldC (stepC La c) l:=rfl
    rw[h1,ih (fun x hx=>hl x (List.mem_cons_of_mem _ hx))]
    have hkc:keyC c=pk s c.key:=by unfold keyC;rw[(hl c (by simp)).2];rfl
    unfold stepC
    rw[hkc]
    cases c.gone with
    |true=>simpa using zjc hp (x:=(pk s c.key,[])) (hk _ _) La
    |false=>simpa using zjb hp (x:=(pk s c.key,c.value)) (hk _ _) La
 rw[zjl,zjl]
 unfold appL
 rw[zjb hp,hf l hl]
 have h16:inR [] [16] (([16]:Bs),uintN pos)=false:=by
  unfold inR
  rw[z6e]
  simp
 rw[h16,Bool.and_false]
end
section
open Go.RowKit Go.H
set_option maxHeartbeats 1000000
set_option maxRecDepth 100000
theorem zjn {F:Nat→Prop} {w:World} {v:Value} {M:List SKV} {s:Nat} (h:PairsS F w v M) (hm:M.length≤100000) :
 Calls Tryz.prog 28 #[v,.int .i64 (s:Int)] w fun e w'=>∃A cp,e=.returned (.slice A (M.filter fun y=>decide (y.1≠(s:Int))).length cp)∧Hid (Fr C0 w w'∧PairsS (fun b=>F b∨w.heap.size≤b) w' (.slice A (M.filter fun y=>decide (y.1≠(s:Int))).length cp) (M.filter fun y=>decide (y.1≠(s:Int)))):=by
 have HM:=zhd (h.mono (F':=fun b=>F b∧b<w.heap.size) (fun b hb hl=>⟨hb,hl⟩))
 obtain⟨A,cp,rfl,hlc,hcm⟩:=h.form
 unfold maxLen at hcm
 clear h
 go_enter Tryz.func28,Tryz.ntmps28
 go_wp2_with fail
 go_loopw [6,5] (fun i o wr=>∃k:Nat,k≤M.length∧i=.int .i64 (k:Int)∧Hid (Fr C0 w wr)∧Hid (∃ys,wr.ownsRow w.heap.size 42 3 o ((M.take k).filter fun y=>decide (y.1≠(s:Int))).length ys∧PairCellsS (fun b=>F b∧b<w.heap.size) wr ys ((M.take k).filter fun y=>decide (y.1≠(s:Int))))) (fun i _ _=>M.length-(intOf i).toNat)
 case atStart=>exact⟨0,Nat.zero_le _,rfl,zhd (Fr.refl _ _),zhd ⟨[],World.ownsRow_nil _ _ _ _,.nil⟩⟩
 case round=>
  obtain⟨k,hk,rfl,HF,HO⟩:=hrel
  by_cases hlt:k<M.length
  · obtain⟨g,o,kv,vv,rfl,a0,a1,a2,a3,a4⟩:=(HM.out.fr0 HF.out).at_ k hlt
    have htk:(M.take (k+1)).filter (fun y=>decide (y.1≠(s:Int)))=(M.take k).filter (fun y=>decide (y.1≠(s:Int)))++if M[k].1≠(s:Int) then[M[k]] else[]:=by
     rw[List.take_succ_eq_append_getElem hlt,List.filter_append]
     congr 1
     by_cases e:M[k].1=(s:Int)<;>simp[e]
    generalize M[k]=x at *
    have HTK:=zhd htk
    have hsw:=HF.out.size
    obtain⟨ys,ho,hc⟩:=HO.out
    obtain⟨A3,p3,rfl,-⟩:=z0o ho
    have HOW:=zhd ho
    have HCS:=zhd hc
    have H3:=zhd a3
    have H4:=zhd a4
    obtain⟨KA,kc,rfl,-⟩:=a3.form
    obtain⟨VA,vc,rfl,-⟩:=a4.form
    have hms:((M.take k).filter fun y=>decide (y.1≠(s:Int))).length≤100000:=by
     have h1:=List.length_filter_le (fun y=>decide (y.1≠(s:Int))) (M.take k)
     rw[List.length_take] at h1
     omega
    clear htk ho hc a3 a4 HO
    generalize (M.take k).filter (fun y=>decide (y.1≠(s:Int)))=Q at *
    by_cases hx:x.1=(s:Int)
    · have hxb:(x.1 != (s:Int))=false:=by simp[hx]
      have hq:(if x.1≠(s:Int) then[x] else[])=[]:=if_neg (by simpa using hx)
      rw[hq,List.append_nil] at HTK
      clear hx hq
      go_wp2_with fail
      go_roundw
      case rel=>exact⟨k+1,by omega,by go_num,HF,zhd ⟨ys,by rw[HTK.out];exact HOW.out,by rw[HTK.out];exact HCS.out⟩⟩
      case measure=>simp[intOf];omega
    · have hxb:(x.1 != (s:Int))=true:=by simpa [bne] using hx
      have hq:(if x.1≠(s:Int) then[x] else[])=[x]:=if_pos hx
      rw[hq] at HTK
      clear hx hq
      go_wp2_with (at_builtin;go_must (refine z0l zja rfl _ _ rfl (v:=.slice A3 Q.length p3) (xv:=.slice (some ⟨wr.heap.size,0,none⟩) 1 1) rfl rfl (B:=w.heap.size) (z0m HOW.out ((Fr.refl C0 wr).alloc _) (fun _ _ h=>h)) (Row.ofBlock (F:=fun _=>True) (heap_alloc_new wr _) trivial (by unfold maxLen;omega) rfl) (by simp[Value.oneCell']) (by unfold maxLen;omega) (by omega) (Nat.le_trans hsw ((Fr.refl C0 wr).alloc (.cells #[.int .i64 x.1,.slice KA x.2.1.length kc,.slice VA x.2.2.length vc] 42)).size) ?_);intro v7 w7 o7 f7 k7 nil7)
      go_roundw
      case rel=>
       have fa:=(Fr.refl C0 wr).alloc (.cells #[.int .i64 x.1,.slice KA x.2.1.length kc,.slice VA x.2.2.length vc] 42)
       have hd:∀b,(F b∧b<w.heap.size)→¬(Value.slice A3 Q.length p3).ownBlock=some b:=fun b hb e=>by have:=(HOW.out.lt b e).1;omega
       refine⟨k+1,by omega,by go_num,zhd ((HF.out.trans0 fa).transO f7 (fun b e=>(HOW.out.lt b e).1)),zhd ⟨_,by rw[HTK.out,List.length_append];exact o7,?_⟩⟩
       rw[HTK.out]
       exact PairCellsS.append (.cons ((H3.out.fr0 fa).fr f7 hd) ((H4.out.fr0 fa).fr f7 hd) .nil) ((HCS.out.fr fa (fun _ _ e=>e)).fr f7 hd)
      case measure=>simp[intOf];omega
  · obtain rfl:k=M.length:=by omega
    obtain⟨ys,ho,hc⟩:=HO.out
    rw[List.take_length] at ho hc
    obtain⟨A3,p3,rfl,-⟩:=z0o ho
    have HOW:=zhd ho
    have HCS:=zhd hc
    clear ho hc HO
    go_wp2_with fail
    go_ret
    exact⟨A3,p3,rfl,zhd ⟨HF.out,ys,Row.ofOwn HOW.out (fun b e=>.inr (HOW.out.lt b e).1),HCS.out.mono (fun b hb _=>.inl hb.1)⟩⟩
end
section
open Go.RowKit Go.H
set_option maxHeartbeats 1000000
set_option maxRecDepth 100000
variable {c c' : Nat → Nat} {w w' : World}
theorem zjo {d m n:Nat} (hd:DiskA (Dt c) w d m (.slice none 0 0) (newD n)) (od:c d=1) (om:c m=1) (hc:Cl w c) (h1:3≤n) (h2:n≤4096) :
 Calls Tryz.prog 22 #[.pointer (some ⟨d,0,none⟩)] w fun e w'=>∃sp,e=.returned (.tuple #[.pointer (some ⟨sp,0,none⟩),.int .i64 0])∧Hid (Fr C0 w w'∧∃tp c',Ag w.heap.size c c'∧LocAt c' w' sp tp (TSt.empty (newD n) 0 d) 0):=by
 have HO:=zhd (zec (r:=1) (rn:=2) (rm:=3) (num:=0) (by exact⟨by omega,by omega,by omega,by omega,by omega,by omega⟩) hd od om (fun b hb=>by simp[Value.ownBlock] at hb) hc rfl h1 h2 (zeh n) rfl (zeg n) (by omega) (zdg (zef n)))
 clear hd od om hc
 go_enter Tryz.func22,Tryz.ntmps22
 go_wp2_with fail
 refine HO.out.mono ?_
 rintro e w1 ⟨f1,tp,c1,rfl,ag1,hle,ht⟩
 have F1:=zhd f1
 have A1:=zhd ag1
 obtain⟨c2,hc2⟩:∃c2:Nat→Nat,c2=fun b=>if b=w1.heap.size then 7 else c1 b:=⟨_,rfl⟩
 have cl1:Cl w1 c1:=by obtain⟨st,lm,km,nr,lr,gv,ov,sn,t⟩:=ht;exact t.cl
 have ag2:Ag w1.heap.size c1 c2:=fun b hb=>by
  rw[hc2]
  show(if b=w1.heap.size then 7 else c1 b)=c1 b
  rw[if_neg (by omega)]
 obtain⟨w2,hw2⟩:∃w2,w2=w1.alloc (.cells (LocCells tp 0 []) 91):=⟨_,rfl⟩
 have F2:Fr C0 w1 w2:=by rw[hw2];exact(Fr.refl C0 w1).alloc _
 have hb2:w2.heap[w1.heap.size]?=some (.cells (LocCells tp 0 []) 91 (0,0)):=by rw[hw2];exact heap_alloc_new w1 _
 have hs2:w2.heap.size=w1.heap.size+1:=by rw[hw2];simp
 have cl2:Cl w2 c2:=fun b hb=>by
  rw[hc2]
  show(if b=w1.heap.size then 7 else c1 b)=0
  rw[if_neg (by omega)]
  exact cl1 b (by omega)
 have e7:c2 w1.heap.size=7:=by rw[hc2];exact if_pos rfl
 have ht2:TreeAt c2 1 2 3 w2 tp (TSt.empty (newD n) 0 d) 0:=ht.moveC F2 ag2 cl2 (fun b e=>e.elim) (fun b e=>e.elim) (fun b e=>e.elim) (fun b e=>e.elim)
 have HL:Hid (LocAt c2 w2 w1.heap.size tp (TSt.empty (newD n) 0 d) 0):=zhd ⟨ht2,hb2,e7,LocOk.nil⟩
 obtain⟨q,hq1,hq2,hq3,hq4⟩:=zbp cl2 1 2
 have HR:=zhd (zer (n:=1073741824) hq2 hq3 hq4 hq1 (by omega) ht2 (nilB (F:=Dt c2)) (nilB (F:=Dt c2)) (by simp) (by simp))
 have HF2:=zhd (f1.trans0 F2)
 have A2:Hid (Ag w.heap.size c c2):=zhd (fun b hb=>(ag2 b (by have:=f1.size;omega)).trans (ag1 b hb))
 have HW2:=zhd hw2
 clear hw2 F2 hb2 hs2 cl2 e7 ht2 hq1 hq2 hq3 hq4 HO f1 ag1 cl1 ag2 hc2 ht
 have hlc:LocCells tp 0 []=#[.pointer (some ⟨tp,0,none⟩),.int .i64 0,.int .i64 0,.int .i64 0,.int .i64 0,.int .i64 0,.int .i64 0,.int .i64 0,.int .i64 0,.int .i64 0,.int .i64 0,.int .i64 0,.int .i64 0,.int .i64 0,.int .i64 0,.int .i64 0,.int .i64 0,.int .i64 0]:=by rfl
 rw[hlc] at HW2
 clear hlc
 go_wp2_with fail
 rw[←HW2.out]
 refine HR.out.mono ?_
 rintro e w3 ⟨f3,v3,c3,rfl,-,-,o3⟩
 obtain⟨A3,p3,hv3,-⟩:=o3.form
 rw[show(rangeL [] [] (rootL (TSt.empty (newD n) 0 d).now)).take 1073741824=[] from rfl,List.length_nil] at hv3
 subst hv3
 have F3:=zhd f3
 clear f3 o3
 go_wp2_with fail
 refine wp_loop_rounds 1 ?_;rw[rounds_succ]
 go_wp2_with fail
 go_ret2
 exact⟨_,rfl,zhd ⟨HF2.out.trans0 F3.out,tp,c2,A2.out,HL.out.fr0 F3.out⟩⟩
end
end Go.Proofs.YtidalepbkljkpaaGreat
