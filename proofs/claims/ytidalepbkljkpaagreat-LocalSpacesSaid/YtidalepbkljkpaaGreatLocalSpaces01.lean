import Derived.WalkKit
import Derived.WalkLawsBesides
import Derived.WalkSpells
import Derived.Deep.QuietTactic
import Derived.BigQuiet
import Derived.Lib.Hide
import Derived.Deep.RegionHeld3
import Derived.Test.YtidalepbkljkpaaGreatRows
import Derived.ProofKit
import Derived.OpenShut
import Derived.ChangeSlices
import Derived.WideKeyArgs
import Derived.Deep.Matrix
set_option linter.all false
namespace Go.H
theorem zs1 {α : Type} (l : List α) (i : Nat) (a : α) : l.toArray.setIfInBounds i a = (l.set i a).toArray := List.setIfInBounds_toArray ..
theorem zs2 {α : Type} (x y : α) (l : List α) : (x :: l).set 0 y = y :: l := rfl
theorem zs3 {α : Type} (x y : α) (l : List α) (n : Nat) : (x :: l).set (n + 1) y = x :: l.set n y := rfl
theorem zhd {p : Prop} (h : p) : Go.RowKit.Hid p := Lib.hid h
end Go.H
section
namespace Go.H
open Go.RowKit
def bv (x:UInt8):Value:=.int .u8 (x.toNat:Int)
structure Fr (C:Nat→Prop) (w w':World):Prop where
 os:w'.os=w.os
 output:w'.output=w.output
 size:w.heap.size≤w'.heap.size
 block:∀k,k<w.heap.size→¬C k→w'.heap[k]?=w.heap[k]?
def C0:Nat→Prop:=fun _=>False
theorem Fr.refl (C:Nat→Prop) (w:World):Fr C w w:=⟨rfl,rfl,Nat.le_refl _,fun _ _ _=>rfl⟩
theorem Fr.trans {C C2:Nat→Prop} {a b c:World} (h:Fr C a b) (k:Fr C2 b c) (hc:∀i,i<a.heap.size→C2 i→C i):Fr C a c:=
 ⟨k.os.trans h.os, k.output.trans h.output, Nat.le_trans h.size k.size, fun i hi hn =>
  (k.block i (Nat.lt_of_lt_of_le hi h.size) (fun h2=>hn (hc i hi h2))).trans (h.block i hi hn)⟩
theorem Fr.trans0 {C:Nat→Prop} {a b c:World} (h:Fr C a b) (k:Fr C0 b c):Fr C a c:=h.trans k (fun _ _ h=>h.elim)
theorem Fr.mono {C C2:Nat→Prop} {a b:World} (h:Fr C a b) (hc:∀i,i<a.heap.size→C i→C2 i):Fr C2 a b:=
 ⟨h.os,h.output,h.size,fun i hi hn=>h.block i hi (fun h2=>hn (hc i hi h2))⟩
theorem Fr.alloc {C:Nat→Prop} {a b:World} (h:Fr C a b) (o:Obj):Fr C a (b.alloc o):=
 h.trans0 ⟨rfl,rfl,by simp,fun k hk _=>Below.heap_alloc _ _ _ hk⟩
theorem Fr.drew {C:Nat→Prop} {a b:World} (h:Fr C a b):Fr C a b.drew:=⟨h.os,h.output,h.size,h.block⟩
theorem Fr.setCell {C:Nat→Prop} {a b:World} (h:Fr C a b) {p:Addr} (hp:a.heap.size≤p.block∨C p.block) (u:Value):Fr C a (b.setCell p u):=
 ⟨h.os, h.output, by simpa [World.setCell] using h.size, fun k hk hn => by
  rw[Below.heap_setCell _ _ _ _ (by rintro rfl;rcases hp with hp|hp;omega;exact hn hp)];exact h.block k hk hn⟩
theorem Fr.cell {C:Nat→Prop} {w w':World} (h:Fr C w w') {p:Addr} {v:Value} (hv:w.cell? p=some v) (hp:¬C p.block):w'.cell? p=some v:=
 (World.cell?_of_block (h.block p.block (World.block_lt_of_cell? w p hv) hp)).trans hv
theorem Fr.cell0 {w w':World} (h:Fr C0 w w') {p:Addr} {v:Value} (hv:w.cell? p=some v):w'.cell? p=some v:=h.cell hv (fun h=>h)
theorem Fr.frozen {C:Nat→Prop} {w w':World} (h:Fr C w w') {p:Addr} (hl:p.block<w.heap.size) (hp:¬C p.block):w'.frozen? p=w.frozen? p:=
 World.frozen?_of_block (h.block p.block hl hp)
def BytesAt (F:Nat→Prop) (w:World) (v:Value) (l:List UInt8):Prop:=
 ∃A c,v=.slice A l.length c∧l.length≤c∧c≤maxLen∧(l≠[]→∃g o,A=some ⟨g,o,none⟩∧F g∧∀j (h:j<l.length),w.cell? ⟨g,o+j,none⟩=some (bv l[j]))
theorem BytesAt.fr {F C:Nat→Prop} {w w':World} {v:Value} {l:List UInt8} (h:BytesAt F w v l) (hf:Fr C w w') (hd:∀b,F b→¬C b):BytesAt F w' v l:=by
 obtain⟨A,c,rfl,h1,h2,h3⟩:=h
 refine⟨A,c,rfl,h1,h2,fun hl=>?_⟩
 obtain⟨g,o,rfl,hF,hc⟩:=h3 hl
 exact⟨g,o,rfl,hF,fun j hj=>hf.cell (hc j hj) (hd g hF)⟩
theorem BytesAt.mono {F F':Nat→Prop} {w:World} {v:Value} {l:List UInt8} (h:BytesAt F w v l) (hF:∀b,F b→b<w.heap.size→F' b):BytesAt F' w v l:=by
 obtain⟨A,c,rfl,h1,h2,h3⟩:=h
 refine⟨A,c,rfl,h1,h2,fun hl=>?_⟩
 obtain⟨g,o,rfl,hF2,hc⟩:=h3 hl
 have h0:0<l.length:=by cases l<;>simp_all
 exact⟨g,o,rfl,hF g hF2 (World.block_lt_of_cell? w _ (hc 0 h0)),hc⟩
end Go.H
namespace Go.H
open Go.RowKit
abbrev KV:=List UInt8×List UInt8
def ItemsAt (F:Nat→Prop) (w:World) (v:Value) (l:List KV):Prop:=
 ∃ A c, v = .slice A l.length c ∧ l.length ≤ c ∧ c ≤ maxLen ∧ (l ≠ [] → ∃ g o, A = some ⟨g, o, none⟩ ∧ F g ∧ ∀ j (h : j < l.length), ∃ kv vv,
   w.cell? ⟨g,o+j*2,none⟩=some kv∧w.cell? ⟨g,o+j*2+1,none⟩=some vv∧BytesAt F w kv l[j].1∧BytesAt F w vv l[j].2)
theorem ItemsAt.fr {F C:Nat→Prop} {w w':World} {v:Value} {l:List KV} (h:ItemsAt F w v l) (hf:Fr C w w') (hd:∀b,F b→¬C b):ItemsAt F w' v l:=by
 obtain⟨A,c,rfl,h1,h2,h3⟩:=h
 refine⟨A,c,rfl,h1,h2,fun hl=>?_⟩
 obtain⟨g,o,rfl,hF,hc⟩:=h3 hl
 refine⟨g,o,rfl,hF,fun j hj=>?_⟩
 obtain⟨kv,vv,a1,a2,a3,a4⟩:=hc j hj
 exact⟨kv,vv,hf.cell a1 (hd g hF),hf.cell a2 (hd g hF),a3.fr hf hd,a4.fr hf hd⟩
theorem BytesAt.fr0 {F:Nat→Prop} {w w':World} {v:Value} {l:List UInt8} (h:BytesAt F w v l) (hf:Fr C0 w w'):BytesAt F w' v l:=h.fr hf (fun _ _ h=>h)
theorem ItemsAt.fr0 {F:Nat→Prop} {w w':World} {v:Value} {l:List KV} (h:ItemsAt F w v l) (hf:Fr C0 w w'):ItemsAt F w' v l:=h.fr hf (fun _ _ h=>h)
end Go.H
end
namespace Go.H
section
open Go.ChangeShapes Go.WideShapes Go.ChangeAt Go.RowKit Go.Deep
theorem Fr.kept {w w':World} (h:Fr C0 w w') (may:MemPlace→Prop):w.keptBut w' may:=by
 refine⟨h.os,h.output,fun i hi=>?_⟩
 rw[h.block i hi id,Array.getElem?_eq_getElem hi]
 cases w.heap[i]<;>simp
theorem Fr.same {w w':World} (h:Fr C0 w w') {p:MemPlace} (hp:p.block<w.heap.size):w.sameAt w' p:=by
 cases p with
 |cell b o=>exact World.cell?_of_block (w:=w) (h.block b hp id)
 |map b=>exact h.block b hp id
theorem z00 {H:Type} {enc:TypeId×Value→H} {P:Program} {W W':World} (hl:laidOutB P=true) (hf:Fr C0 W W'):∀{ts:List TypeId} {vs:List Value} {ds:List (DataW H)} {ps:List MemPlace},(∀t∈ts,P.readableRec t=true∧t<P.types.size)→DataW.TrodAll enc P W 0 (fun _=>true) true ts vs ds ps→(∀p∈ps,p.block<W.heap.size)→DataW.TrodAll enc P W' 0 (fun b=>decide (b<W.heap.size)) true ts vs ds ps
 |[],[],[],_,_,h,_=>h
 |_::_,_::_,_::_,_,hT,⟨p,q,h1,h2,e⟩,hs=>⟨p,q,WideElems.Trod_stays hl (hT _ (by simp)).1 (hT _ (by simp)).2 h1 (fun x hx=>hf.same (hs x (by rw[e];exact List.mem_append_left _ hx))) (fun x hx=>by simpa using hs x (by rw[e];exact List.mem_append_left _ hx)),z00 hl hf (fun t ht=>hT t (List.mem_cons_of_mem _ ht)) h2 (fun x hx=>hs x (by rw[e];exact List.mem_append_right _ hx)),e⟩
theorem z01 {H:Type} {enc:TypeId×Value→H} {P:Program} {f:Func} {s:ChangeSpec} {W W':World} {args:Array Value} {ds gs:List (DataW H)} {before:List MemPlace} {tb:TypeId} {fresh handsOn:Bool} (hl:laidOutB P=true) (hT:∀t∈f.params.toList,P.readableRec t=true∧t<P.types.size) (hv:s.vars=[]) (hr:f.resultTypes=#[tb]) (hb:P.underlying tb=some .bool) (hW:DataW.Whole enc P f.params.toList s.vars false W args.toList ds gs before) (hs:s.fn H (ds++gs)={ results:=[.lit (.bool true)],args:=ds }) (hf:Fr C0 W W'):s.post enc P f false fresh handsOn false W args (.bool true) W':=by
 have hlt:=hW.lt
 have hW2:=hW
 obtain⟨p,q,h1,h2,e,-,-⟩:=hW2
 rw[hv] at h2
 obtain⟨rfl,rfl⟩:=trodVars_none h2
 simp only[List.append_nil] at e
 subst e
 refine⟨ds,[],before,[],before,[],hW,?_,?_,?_,hf.kept _,fun h=>by cases h⟩
 · rw[hs,hr]
   exact trodAll_cons_mk (shut_bool hb _) trodAll_mk0
 · rw[hs]
   exact z00 hl hf hT h1 hlt
 · rw[hs,hv]
   rfl
end
section
open Go.RowKit
def World.putObj (w:World) (r:Nat) (o:Obj):World:={ w with heap:=w.heap.setIfInBounds r o }
theorem run_getObj_map {P:Program} {w:World} {r:Nat} {es:Array MapEntry} {c:Nat} (h:w.heap[r]?=some (.map es c)):(getObj r).run P w=.ok (.map es c) w:=by
 simp[getObj,Sem.run,h]
theorem run_setObj_map {P:Program} {w:World} {r:Nat} {es:Array MapEntry} {c:Nat} (o:Obj) (h:w.heap[r]?=some (.map es c)):(setObj r o).run P w=.ok () (World.putObj w r o):=by
 simp[setObj,Sem.run,h,World.putObj]
theorem z02 {w:World} {r:Nat} {o:Obj} (h:r<w.heap.size):(World.putObj w r o).heap[r]?=some o:=by
 simp[World.putObj,h]
theorem z03 {w:World} {r k:Nat} {o:Obj} (h:k≠r):(World.putObj w r o).heap[k]?=w.heap[k]?:=by
 simp only[World.putObj,Array.getElem?_setIfInBounds]
 rw[if_neg (Ne.symm h)]
theorem z04 (w:World) (r:Nat) (o:Obj):(World.putObj w r o).heap.size=w.heap.size:=by simp[World.putObj]
theorem Fr.putObj {C:Nat→Prop} {a b:World} (h:Fr C a b) {r:Nat} (hr:a.heap.size≤r∨C r) (o:Obj):Fr C a (World.putObj b r o):=
 ⟨h.os, h.output, by simpa [z04] using h.size, fun k hk hn => by
  rw[z03 (by rintro rfl;rcases hr with hp|hp;omega;exact hn hp)];exact h.block k hk hn⟩
def kvp (p:Int×Value):Value×Value:=(.int .i64 p.1,p.2)
structure Ent (es:Array MapEntry) (clock:Nat) (L:List (Int×Value)):Prop where
 kv:es.toList.map (fun e=>(e.key,e.val))=L.map kvp
 keys:(L.map Prod.fst).Nodup
 born:(es.toList.map (·.born)).Nodup
 clock:∀e∈es.toList,e.born<clock
def MapIs (w:World) (m:Nat) (L:List (Int×Value)):Prop:=∃es clock,w.heap[m]?=some (.map es clock)∧Ent es clock L
theorem MapIs.lt {w:World} {m:Nat} {L:List (Int×Value)} (h:MapIs w m L):m<w.heap.size:=by
 obtain⟨es,c,h,_⟩:=h
 exact(Array.getElem?_eq_some_iff.1 h).1
theorem MapIs.fr {C:Nat→Prop} {w w':World} {m:Nat} {L:List (Int×Value)} (h:MapIs w m L) (hf:Fr C w w') (hm:¬C m):MapIs w' m L:=by
 have hl:=h.lt
 obtain⟨es,c,h,h2⟩:=h
 exact⟨es,c,(hf.block m hl hm).trans h,h2⟩
theorem MapIs.made (w:World):MapIs (w.alloc (.map #[] 0)) w.heap.size []:=
 ⟨#[],0,heap_alloc_new w _,by simp,by simp,by simp,by simp⟩
def findIx (k:Int):List (Int×Value)→Nat→Option (Nat×Value)
 |[],_=>none
 |p::L,i=>if p.1=k then some (i,p.2) else findIx k L (i+1)
def mget (L:List (Int×Value)) (k:Int):Option Value:=(findIx k L 0).map (·.2)
def mset (L:List (Int×Value)) (k:Int) (v:Value):List (Int×Value):=
 match findIx k L 0 with
 |some (i,_)=>L.set i (k,v)
 |none=>L++[(k,v)]
def mdel (L:List (Int×Value)) (k:Int):List (Int×Value):=L.filter (fun p=>p.1≠k)
theorem z05 (k:Int):∀(es:List MapEntry) (L:List (Int×Value)) (i:Nat),es.map (fun e=>(e.key,e.val))=L.map kvp→
 Instr.findNow (.int .i64) (.int .i64 k) es i=some (findIx k L i)
 |[],[],i,_=>rfl
 |[],_::_,_,h=>by simp at h
 |_::_,[],_,h=>by simp at h
 | e :: es, p :: L, i, h => by
   simp only[List.map_cons,List.cons.injEq,kvp,Prod.mk.injEq] at h
   have ih:=z05 k es L (i+1) h.2
   simp only[Instr.findNow,findIx,h.1.1,Instr.sameNow,h.1.2,if_true]
   by_cases hk:p.1=k
   · simp[hk]
   · have:(k == p.1)=false:=by simpa using fun h=>hk h.symm
     simp only[this,hk,if_false]
     exact ih
theorem z06 {k:Int}:∀{L:List (Int×Value)} {i j:Nat} {v:Value},findIx k L i=some (j,v)→∃n,j=i+n∧L[n]?=some (k,v)
 |[],_,_,_,h=>by simp[findIx] at h
 | p :: L, i, j, v, h => by
   unfold findIx at h
   split at h
   · rename_i hk
     simp only[Option.some.injEq,Prod.mk.injEq] at h
     exact⟨0,by omega,by simp[←hk,←h.2]⟩
   · obtain⟨n,h1,h2⟩:=z06 h
     exact⟨n+1,by omega,by simpa using h2⟩
theorem z07 {k:Int}:∀{L:List (Int×Value)} {i:Nat},findIx k L i=none↔∀p∈L,p.1≠k
 |[],_=>by simp[findIx]
 | p :: L, i => by
   unfold findIx
   split
   · rename_i hk;simp[hk]
   · rename_i hk;simp[hk,z07]
theorem z08 {P:Program} {w:World} {T K E m:Nat} {L:List (Int×Value)} {z:Value} (hT:P.underlying T=some (.map K E)) (hK:P.underlying K=some (.int .i64))
 (hz:(zeroValue E).run P w=.ok z w) (h:MapIs w m L) (k:Int) (ok:Bool) :
 (Instr.lookup T (.map (some m)) (.int .i64 k) ok).run P w=.ok (if ok then .tuple #[(mget L k).getD z,.bool (mget L k).isSome] else(mget L k).getD z) w:=by
 obtain⟨es,c,hm,he⟩:=h
 have hf:=z05 k es.toList L 0 he.kv
 have hc:∀b,(Instr.checkKey b 10000 K (.int .i64 k)).run P w=.ok () w:=by
  intro b;unfold Instr.checkKey;simp[run_underlying hK]
 simp only[Instr.lookup,Sem.run_bind,run_underlying hT,Result.andThen_ok,run_getObj_map hm,hc,Sem.run_pure,Instr.findKey,run_underlying hK,hf]
 unfold mget
 cases findIx k L 0 with
 |none=>simp[hz]
 |some q=>simp
theorem z09:∀(es:List MapEntry) (L:List (Int×Value)) (i:Nat) (k:Int) (v u:Value),es.map (fun e=>(e.key,e.val))=L.map kvp→L[i]?=some (k,u)→
 (es.modify i fun e=>{ e with key:=.int .i64 k,val:=v }).map (fun e=>(e.key,e.val))=(L.set i (k,v)).map kvp
 | [], L, i, k, v, u, h, hi => by
   cases L with
   |nil=>simp at hi
   |cons=>simp at h
 |e::es,[],i,k,v,u,h,hi=>by simp at h
 | e :: es, p :: L, 0, k, v, u, h, hi => by
   simp only[List.map_cons,List.cons.injEq] at h
   simp[List.modify_cons,kvp,h.2]
 | e :: es, p :: L, i + 1, k, v, u, h, hi => by
   simp only[List.map_cons,List.cons.injEq] at h
   have:=z09 es L i k v u h.2 (by simpa using hi)
   simp only[List.modify_succ_cons,List.map_cons,List.set_cons_succ,this,h.1]
theorem z0a (es:List MapEntry) (i:Nat) (k v:Value):(es.modify i fun e=>{ e with key:=k,val:=v }).map (·.born)=es.map (·.born):=by
 induction es generalizing i with
 |nil=>simp
 |cons e es ih=>cases i<;>simp[List.modify_cons,ih]
theorem z0b:∀(L:List (Int×Value)) (i:Nat) (k:Int) (v u:Value),L[i]?=some (k,u)→(L.set i (k,v)).map Prod.fst=L.map Prod.fst
 |[],i,k,v,u,h=>by simp at h
 |p::L,0,k,v,u,h=>by simp at h;simp[h]
 |p::L,i+1,k,v,u,h=>by simp[z0b L i k v u (by simpa using h)]
theorem Ent.set {es:Array MapEntry} {c:Nat} {L:List (Int×Value)} (he:Ent es c L) (k:Int) (v:Value) :
 (∀i u,findIx k L 0=some (i,u)→Ent (es.modify i fun e=>{ e with key:=.int .i64 k,val:=v }) c (mset L k v))∧
 (findIx k L 0=none→Ent (es.push { key:=.int .i64 k,val:=v,born:=c }) (c+1) (mset L k v)):=by
 constructor
 · intro i u hf
   obtain⟨n,h1,h2⟩:=z06 hf
   obtain rfl:i=n:=by omega
   have hms:mset L k v=L.set i (k,v):=by unfold mset;rw[hf]
   rw[hms]
   have hb:=z0a es.toList i (.int .i64 k) v
   refine⟨?_,?_,?_,?_⟩
   · rw[Array.toList_modify];exact z09 _ _ _ _ _ _ he.kv h2
   · rw[z0b _ _ _ _ _ h2];exact he.keys
   · rw[Array.toList_modify,hb];exact he.born
   · intro e hm
     rw[Array.toList_modify] at hm
     have hm2:e.born∈(es.toList.map (·.born)):=by rw[←hb];exact List.mem_map.2 ⟨e,hm,rfl⟩
     obtain⟨e',h1,h2⟩:=List.mem_map.1 hm2
     rw[←h2];exact he.clock e' h1
 · intro hf
   have hms:mset L k v=L++[(k,v)]:=by unfold mset;rw[hf]
   rw[hms]
   have hnot:=z07.1 hf
   refine⟨?_,?_,?_,?_⟩
   · simp[he.kv,kvp]
   · rw[List.map_append,List.nodup_append]
     refine⟨he.keys,by simp,?_⟩
     intro a ha b hb
     simp only[List.map_cons,List.map_nil,List.mem_singleton] at hb
     obtain⟨p,h1,rfl⟩:=List.mem_map.1 ha
     rw[hb];exact hnot p h1
   · simp only[Array.toList_push,List.map_append,List.map_cons,List.map_nil,List.nodup_append]
     refine⟨he.born,by simp,?_⟩
     intro a ha b hb
     simp only[List.mem_singleton] at hb
     obtain⟨e,h1,rfl⟩:=List.mem_map.1 ha
     have:=he.clock e h1
     omega
   · intro e hm
     simp only[Array.toList_push,List.mem_append,List.mem_singleton] at hm
     rcases hm with hm|rfl
     · have:=he.clock e hm;omega
     · exact Nat.lt_succ_self _
theorem z0c (n:Nat) (k:Int):Instr.sameBits n (.int .i64 k) (.int .i64 k)=true:=by
 unfold Instr.sameBits;simp
theorem z0d {P:Program} {w:World} {T K E m:Nat} {L:List (Int×Value)} (hT:P.underlying T=some (.map K E)) (hK:P.underlying K=some (.int .i64))
 (h:MapIs w m L) (k:Int) (v:Value) :
 ∃o,(Instr.mapUpdate T (.map (some m)) (.int .i64 k) v).run P w=.ok () (World.putObj w m o)∧MapIs (World.putObj w m o) m (mset L k v):=by
 have hl:=h.lt
 obtain⟨es,c,hm,he⟩:=h
 have hf:=z05 k es.toList L 0 he.kv
 have hc:∀b,(Instr.checkKey b 10000 K (.int .i64 k)).run P w=.ok () w:=by
  intro b;unfold Instr.checkKey;simp[run_underlying hK]
 simp only[Instr.mapUpdate,Sem.run_bind,run_underlying hT,Result.andThen_ok,run_getObj_map hm,hc,Instr.findKey,run_underlying hK,hf]
 obtain⟨h1,h2⟩:=he.set k v
 cases hfi:findIx k L 0 with
 | none =>
   refine⟨_,?_,_,_,z02 hl,h2 hfi⟩
   simp only[Sem.run_pure,Result.andThen_ok]
   exact run_setObj_map _ hm
 | some q =>
   obtain⟨i,u⟩:=q
   refine⟨_,?_,_,_,z02 hl,h1 i u hfi⟩
   obtain⟨n,hn1,hn2⟩:=z06 hfi
   obtain rfl:i=n:=by omega
   have hkey:((es[i]?).map (·.key)).getD (.int .i64 k)=.int .i64 k:=by
    have:(es.toList.map (fun e=>(e.key,e.val)))[i]?=(L.map kvp)[i]?:=by rw[he.kv]
    simp only[List.getElem?_map,hn2,Option.map_some,kvp] at this
    cases h:es[i]? with
    |none=>rfl
    | some e =>
      have h':es.toList[i]?=some e:=by simpa using h
      rw[h'] at this
      simp only[Option.map_some,Option.some.injEq,Prod.mk.injEq] at this
      simp[this.1]
   simp only[Sem.run_pure,Result.andThen_ok,hkey,Instr.keyThatStays,z0c,if_true]
   exact run_setObj_map _ hm
theorem z0e:∀(es:List MapEntry) (L:List (Int×Value)) (i:Nat),es.map (fun e=>(e.key,e.val))=L.map kvp→
 (es.eraseIdx i).map (fun e=>(e.key,e.val))=(L.eraseIdx i).map kvp
 |[],[],_,_=>rfl
 |[],_::_,_,h=>by simp at h
 |_::_,[],_,h=>by simp at h
 |e::es,p::L,0,h=>by simp at h;simpa using h.2
 | e :: es, p :: L, i + 1, h => by
   simp only[List.map_cons,List.cons.injEq] at h
   simp[z0e es L i h.2,h.1]
theorem z0f:∀(L:List (Int×Value)) (i j:Nat) (k:Int) (v:Value),(L.map Prod.fst).Nodup→findIx k L i=some (j,v)→L.eraseIdx (j-i)=mdel L k
 |[],_,_,_,_,_,h=>by simp[findIx] at h
 | p :: L, i, j, k, v, hn, h => by
   simp only[List.map_cons,List.nodup_cons] at hn
   unfold findIx at h
   split at h
   · rename_i hk
     simp only[Option.some.injEq,Prod.mk.injEq] at h
     obtain⟨rfl,_⟩:=h
     have:∀q∈L,q.1≠k:=fun q hq e=>hn.1 (List.mem_map.2 ⟨q,hq,by rw[e,hk]⟩)
     have hf:L.filter (fun q=>q.1≠k)=L:=List.filter_eq_self.2 (fun q hq=>by simpa using this q hq)
     simp[mdel,hk]
     simpa using hf.symm
   · rename_i hk
     obtain⟨n,h1,h2⟩:=z06 h
     have ih:=z0f L (i+1) j k v hn.2 h
     have e1:j-i=(j-(i+1))+1:=by omega
     rw[e1]
     simp only[List.eraseIdx_cons_succ,ih,mdel,List.filter_cons]
     simp[hk]
theorem z0g {L:List (Int×Value)} {k:Int} (h:findIx k L 0=none):mdel L k=L:=
 List.filter_eq_self.2 (fun q hq=>by simpa using z07.1 h q hq)
theorem Ent.del {es:Array MapEntry} {c:Nat} {L:List (Int×Value)} (he:Ent es c L) (k:Int) {i:Nat} {u:Value} (hf:findIx k L 0=some (i,u)) :
 Ent (es.eraseIdxIfInBounds i) c (mdel L k):=by
 have hL:=z0f L 0 i k u he.keys hf
 simp only[Nat.sub_zero] at hL
 obtain⟨n,hn1,hn2⟩:=z06 hf
 obtain rfl:i=n:=by omega
 have hlen:es.toList.length=L.length:=by have:=congrArg List.length he.kv;simpa using this
 have hlt:i<es.size:=by
  have:=(List.getElem?_eq_some_iff.1 hn2).1
  rw[←Array.length_toList,hlen];exact this
 have e:(es.eraseIdxIfInBounds i).toList=es.toList.eraseIdx i:=by
  simp[Array.eraseIdxIfInBounds,hlt]
 refine⟨?_,?_,?_,?_⟩
 · rw[e,←hL];exact z0e _ _ _ he.kv
 · unfold mdel;exact he.keys.sublist (List.Sublist.map _ (List.filter_sublist))
 · rw[e];exact he.born.sublist (List.Sublist.map _ (List.eraseIdx_sublist _ _))
 · intro x hx
   rw[e] at hx
   exact he.clock x (List.mem_of_mem_eraseIdx hx)
theorem z0h {P:Program} {w:World} {T K E m ty:Nat} {L:List (Int×Value)} {ats:Array TypeId} (ha:ats[0]?=some T) (hT:P.underlying T=some (.map K E)) (hK:P.underlying K=some (.int .i64))
 (h:MapIs w m L) (k:Int) :
 ∃o,(Builtin.delete_ ats ty #[.map (some m),.int .i64 k]).run P w=.ok (.tuple #[]) (World.putObj w m o)∧MapIs (World.putObj w m o) m (mdel L k):=by
 have hl:=h.lt
 obtain⟨es,c,hm,he⟩:=h
 have hf:=z05 k es.toList L 0 he.kv
 have hc:∀b,(Instr.checkKey b 10000 K (.int .i64 k)).run P w=.ok () w:=by
  intro b;unfold Instr.checkKey;simp[run_underlying hK]
 cases hfi:findIx k L 0 with
 | none =>
   refine⟨.map es c,?_,es,c,z02 hl,by rw[z0g hfi];exact he⟩
   simp[Builtin.delete_,ha,run_underlying hT,run_getObj_map hm,hc,Instr.findKey,run_underlying hK,hf,hfi,run_setObj_map _ hm]
 | some q =>
   obtain⟨i,u⟩:=q
   refine⟨.map (es.eraseIdxIfInBounds i) c,?_,_,c,z02 hl,he.del k hfi⟩
   simp[Builtin.delete_,ha,run_underlying hT,run_getObj_map hm,hc,Instr.findKey,run_underlying hK,hf,hfi,run_setObj_map _ hm]
theorem run_len_map {P:Program} {w:World} {T K E m ty:Nat} {L:List (Int×Value)} {ats:Array TypeId} (ha:ats[0]?=some T) (hT:P.underlying T=some (.map K E)) (h:MapIs w m L) :
 (Builtin.len_ ats ty #[.map (some m)]).run P w=.ok (.int .i64 (L.length:Int)) w:=by
 obtain⟨es,c,hm,he⟩:=h
 have hlen:es.size=L.length:=by have:=congrArg List.length he.kv;simpa using this
 simp[Builtin.len_,ha,run_underlying hT,run_getObj_map hm,goInt,hlen]
end
end Go.H
