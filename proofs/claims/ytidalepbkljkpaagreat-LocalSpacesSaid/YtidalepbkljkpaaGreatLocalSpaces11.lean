import Derived.Test.YtidalepbkljkpaaGreatLocalSpaces10
import Derived.Test.YtidalepbkljkpaaGreatLocalSpaces02
import Derived.Test.YtidalepbkljkpaaGreatLocalSpaces03
import Derived.Test.YtidalepbkljkpaaGreatLocalSpaces04
import Derived.Deep.DeepMust
set_option linter.all false
section
namespace Go.H
theorem z6e:∀a,bcmp a a=0
 |[]=>rfl
 |a::az=>by simp[bcmp,UInt8.lt_irrefl,z6e az]
theorem z6f:∀{a b},bcmp a b=0→a=b
 |[],[],_=>rfl
 |[],_::_,h=>by simp[bcmp] at h
 |_::_,[],h=>by simp[bcmp] at h
 | a :: az, b :: bs, h => by
   unfold bcmp at h
   split at h
   · simp at h
   · split at h
     · simp at h
     · rename_i h1 h2
       have:a=b:=UInt8.toNat_inj.1 (by rw[UInt8.lt_iff_toNat_lt] at h1 h2;omega)
       rw[this,z6f h]
theorem z6g:∀a b,bcmp b a=- bcmp a b
 |[],[]=>rfl
 |[],_::_=>rfl
 |_::_,[]=>rfl
 | a :: az, b :: bs => by
   unfold bcmp
   by_cases h1:a<b
   · have h2:¬b<a:=by rw[UInt8.lt_iff_toNat_lt] at h1⊢;omega
     simp[h1,h2]
   · by_cases h2:b<a
     · simp[h1,h2]
     · simp[h1,h2,z6g az bs]
theorem z6h:∀{a b c},bcmp a b<0→bcmp b c<0→bcmp a c<0
 |[],[],_,h,_=>by simp[bcmp] at h
 |[],_::_,[],_,h=>by simp[bcmp] at h
 |[],_::_,_::_,_,_=>by simp[bcmp]
 |_::_,[],_,h,_=>by simp[bcmp] at h
 |_::_,_::_,[],_,h=>by simp[bcmp] at h
 | a :: az, b :: bs, c :: cs, h1, h2 => by
   unfold bcmp at h1 h2⊢
   simp only[UInt8.lt_iff_toNat_lt] at h1 h2⊢
   by_cases ha:a.toNat<b.toNat
   · by_cases hb:b.toNat<c.toNat
     · rw[if_pos (by omega)];omega
     · rw[if_neg hb] at h2
       by_cases hb':c.toNat<b.toNat
       · rw[if_pos hb'] at h2;omega
       · rw[if_pos (by omega)];omega
   · rw[if_neg ha] at h1
     by_cases ha':b.toNat<a.toNat
     · rw[if_pos ha'] at h1;omega
     · rw[if_neg ha'] at h1
       by_cases hb:b.toNat<c.toNat
       · rw[if_pos (by omega)];omega
       · rw[if_neg hb] at h2
         by_cases hb':c.toNat<b.toNat
         · rw[if_pos hb'] at h2;omega
         · rw[if_neg hb'] at h2
           rw[if_neg (by omega),if_neg (by omega)]
           exact z6h h1 h2
def klt (a b:KV):Prop:=bcmp a.1 b.1<0
abbrev Sorted (l:List KV):Prop:=l.Pairwise klt
end Go.H
namespace Go.H
def putL (x:KV):List KV→List KV
 |[]=>[x]
 |y::l=>if bcmp x.1 y.1<0 then x::y::l else if bcmp x.1 y.1=0 then x::l else y::putL x l
def delL (k:List UInt8):List KV→List KV
 |[]=>[]
 |y::l=>if bcmp k y.1=0 then l else y::delL k l
def getL (k:List UInt8):List KV→Option (List UInt8)
 |[]=>none
 |y::l=>if bcmp k y.1=0 then some y.2 else getL k l
theorem z6i {x:KV} {R:List KV}:∀{L:List KV},(∀y∈L,0<bcmp x.1 y.1)→putL x (L++R)=L++putL x R
 |[],_=>rfl
 | y :: L, h => by
   have h0:=h y (by simp)
   simp only[List.cons_append,putL,if_neg (show ¬bcmp x.1 y.1<0 by omega),if_neg (show ¬bcmp x.1 y.1=0 by omega),z6i (fun y hy=>h y (List.mem_cons_of_mem _ hy))]
theorem z6j {x:KV} {R:List KV} (hR:∀y∈R,bcmp x.1 y.1<0):∀(M:List KV),putL x (M++R)=putL x M++R
 | [] => by
   cases R with
   |nil=>rfl
   |cons y R=>simp[putL,hR y (by simp)]
 | y :: M => by
   simp only[List.cons_append,putL]
   split
   · simp
   · split
     · simp
     · rw[z6j hR M];rfl
theorem z6k {k:List UInt8} {R:List KV}:∀{L:List KV},(∀y∈L,0<bcmp k y.1)→delL k (L++R)=L++delL k R
 |[],_=>rfl
 | y :: L, h => by
   have h0:=h y (by simp)
   simp only[List.cons_append,delL,if_neg (show ¬bcmp k y.1=0 by omega),z6k (fun y hy=>h y (List.mem_cons_of_mem _ hy))]
theorem z6l {k:List UInt8}:∀{R:List KV},(∀y∈R,bcmp k y.1<0)→delL k R=R
 |[],_=>rfl
 | y :: R, h => by
   have h0:=h y (by simp)
   simp only[delL,if_neg (show ¬bcmp k y.1=0 by omega),z6l (fun y hy=>h y (List.mem_cons_of_mem _ hy))]
theorem z6m {k:List UInt8} {R:List KV} (hR:∀y∈R,bcmp k y.1<0):∀(M:List KV),delL k (M++R)=delL k M++R
 |[]=>by simpa [delL] using z6l hR
 | y :: M => by
   simp only[List.cons_append,delL]
   split
   · rfl
   · rw[z6m hR M];rfl
theorem z6n {k:List UInt8} {R:List KV}:∀{L:List KV},(∀y∈L,0<bcmp k y.1)→getL k (L++R)=getL k R
 |[],_=>rfl
 | y :: L, h => by
   have h0:=h y (by simp)
   simp only[List.cons_append,getL,if_neg (show ¬bcmp k y.1=0 by omega),z6n (fun y hy=>h y (List.mem_cons_of_mem _ hy))]
theorem z6o {k:List UInt8}:∀{R:List KV},(∀y∈R,bcmp k y.1<0)→getL k R=none
 |[],_=>rfl
 | y :: R, h => by
   have h0:=h y (by simp)
   simp only[getL,if_neg (show ¬bcmp k y.1=0 by omega),z6o (fun y hy=>h y (List.mem_cons_of_mem _ hy))]
theorem z6p {k:List UInt8} {R:List KV} (hR:∀y∈R,bcmp k y.1<0):∀(M:List KV),getL k (M++R)=getL k M
 |[]=>by simpa [getL] using z6o hR
 | y :: M => by
   simp only[List.cons_append,getL]
   split
   · rfl
   · exact z6p hR M
theorem z6q {x y:KV} {R:List KV} (h:bcmp x.1 y.1=0):putL x (y::R)=x::R:=by simp[putL,h]
theorem z6r {k:List UInt8} {y:KV} {R:List KV} (h:bcmp k y.1=0):delL k (y::R)=R:=by simp[delL,h]
theorem z6s {k:List UInt8} {y:KV} {R:List KV} (h:bcmp k y.1=0):getL k (y::R)=some y.2:=by simp[getL,h]
theorem z6t {x:KV} {R:List KV} (hR:∀y∈R,bcmp x.1 y.1<0):putL x R=x::R:=by
 have:=z6j hR [];simpa [putL] using this
theorem z6u (k:List UInt8):∀{l:List KV},Sorted l→∃A B,l=A++B∧(findL k l).1=A.length∧(∀y∈A,0<bcmp k y.1)∧
 (((findL k l).2=true∧∃y R,B=y::R∧bcmp k y.1=0∧∀z∈R,bcmp k z.1<0)∨((findL k l).2=false∧∀z∈B,bcmp k z.1<0))
 |[],_=>⟨[],[],rfl,rfl,by simp,.inr ⟨rfl,by simp⟩⟩
 | x :: l, hs => by
   have hx:=(List.pairwise_cons.1 hs).1
   by_cases h:bcmp k x.1≤0
   · refine⟨[],x::l,rfl,by simp[findL,h],by simp,?_⟩
     by_cases h0:bcmp k x.1=0
     · refine .inl ⟨by simp[findL,h0],x,l,rfl,h0,fun z hz=>?_⟩
       have e:=z6f h0
       rw[e]
       exact hx z hz
     · refine .inr ⟨by simp[findL,h,h0],fun z hz=>?_⟩
       rcases List.mem_cons.1 hz with rfl|hz
       · omega
       · exact z6h (b:=x.1) (by omega) (hx z hz)
   · obtain⟨A,B,e,h1,h2,h3⟩:=z6u k (List.pairwise_cons.1 hs).2
     have h2':∀y∈x::A,0<bcmp k y.1:=fun y hy=>by
      rcases List.mem_cons.1 hy with rfl|hy
      · omega
      · exact h2 y hy
     refine⟨x::A,B,by rw[e];rfl,by simp[findL,h,h1],h2',?_⟩
     simpa [findL,h] using h3
def interT:List KV→List (List KV)→List KV
 |x::l,f::fs=>x::f++interT l fs
 |_,_=>[]
def interH:List KV→List (List KV)→List KV
 |x::l,f::fs=>f++x::interH l fs
 |_,_=>[]
def inter (l:List KV):List (List KV)→List KV
 |f::fs=>f++interT l fs
 |[]=>[]
theorem z6v (l2:List KV) (f2:List (List KV)):∀{l1:List KV} {f1:List (List KV)},f1.length=l1.length→interT (l1++l2) (f1++f2)=interT l1 f1++interT l2 f2
 |[],[],_=>rfl
 |x::l1,f::f1,h=>by simp[interT,z6v l2 f2 (l1:=l1) (f1:=f1) (by simpa using h)]
theorem z6w (l2:List KV) (f:List KV) (f2:List (List KV)):∀{l1:List KV} {f1:List (List KV)},f1.length=l1.length→inter (l1++l2) (f1++f::f2)=interH l1 f1++(f++interT l2 f2)
 |[],[],_=>rfl
 | x :: l1, g :: f1, h => by
   have ih:=z6w l2 f f2 (l1:=l1) (f1:=f1) (by simpa using h)
   cases f1 with
   |nil=>simp[inter,interT,interH] at ih⊢;cases l1 with|nil=>simpa [inter,interT,interH] using ih|cons y l1=>simp at h
   | cons g2 f1 =>
     cases l1 with
     |nil=>simp at h
     |cons y l1=>simpa [inter,interT,interH,List.append_assoc] using ih
theorem z6x (x:KV) (l2:List KV) (f2:List (List KV)) {l1:List KV} {f1:List (List KV)} (h1:f1.length=l1.length+1) (h2:f2≠[]):inter (l1++x::l2) (f1++f2)=inter l1 f1++x::inter l2 f2:=by
 obtain⟨f,f1,rfl⟩:∃f f',f1=f::f':=by cases f1 with|nil=>simp at h1|cons a b=>exact⟨a,b,rfl⟩
 obtain⟨g,f2,rfl⟩:∃f f',f2=f::f':=by cases f2 with|nil=>exact absurd rfl h2|cons a b=>exact⟨a,b,rfl⟩
 have:=z6v (x::l2) (g::f2) (l1:=l1) (f1:=f1) (by simpa using h1)
 simp only[inter,List.cons_append,interT,this,List.append_assoc]
theorem z6y:∀{l1:List KV} {f1:List (List KV)},f1.length=l1.length→∀y∈interH l1 f1,Sorted (interH l1 f1)→∃z∈l1,bcmp y.1 z.1≤0
 |[],[],_,y,hy,_=>by simp[interH] at hy
 | x :: l1, f :: f1, h, y, hy, hs => by
   simp only[interH] at hy hs
   rcases List.mem_append.1 hy with hy|hy
   · have:=(List.pairwise_append.1 hs).2.2 y hy x (by simp)
     exact⟨x,by simp,Int.le_of_lt this⟩
   · rcases List.mem_cons.1 hy with rfl|hy
     · exact⟨y,by simp,by rw[z6e];exact Int.le_refl _⟩
     · obtain⟨z,hz,h2⟩:=z6y (l1:=l1) (f1:=f1) (by simpa using h) y hy (List.pairwise_cons.1 (List.pairwise_append.1 hs).2.1).2
       exact⟨z,List.mem_cons_of_mem _ hz,h2⟩
theorem z6z:∀{l2:List KV} {f2:List (List KV)},∀y∈interT l2 f2,Sorted (interT l2 f2)→∃z∈l2,bcmp z.1 y.1≤0
 |[],_,y,hy,_=>by simp[interT] at hy
 |x::l2,[],y,hy,_=>by simp[interT] at hy
 | x :: l2, f :: f2, y, hy, hs => by
   simp only[interT,List.cons_append] at hy hs
   rcases List.mem_cons.1 hy with rfl|hy
   · exact⟨y,by simp,by rw[z6e];exact Int.le_refl _⟩
   · exact⟨x,by simp,Int.le_of_lt ((List.pairwise_cons.1 hs).1 y hy)⟩
theorem z70 {a b c:List UInt8} (h:0<bcmp a b) (h2:bcmp c b≤0):0<bcmp a c:=by
 by_cases e:bcmp c b=0
 · rw[z6f e];exact h
 · have:=z6g a b
   have h3:=z6h (a:=c) (b:=b) (c:=a) (by omega) (by omega)
   have:=z6g a c
   omega
theorem z71 {a b c:List UInt8} (h:bcmp a b<0) (h2:bcmp b c≤0):bcmp a c<0:=by
 by_cases e:bcmp b c=0
 · rw[←z6f e];exact h
 · exact z6h h (by omega)
theorem z72 {k:List UInt8} {l1:List KV} {f1:List (List KV)} (hl:f1.length=l1.length) (hs:Sorted (interH l1 f1)) (h:∀y∈l1,0<bcmp k y.1):∀y∈interH l1 f1,0<bcmp k y.1:=fun y hy=>by
 obtain⟨z,hz,h2⟩:=z6y hl y hy hs
 exact z70 (h z hz) h2
theorem z73 {k:List UInt8} {l2:List KV} {f2:List (List KV)} (hs:Sorted (interT l2 f2)) (h:∀y∈l2,bcmp k y.1<0):∀y∈interT l2 f2,bcmp k y.1<0:=fun y hy=>by
 obtain⟨z,hz,h2⟩:=z6z y hy hs
 exact z71 (h z hz) h2
end Go.H
namespace Go.H
open Go.RowKit
theorem ItemsAt.mono {F F':Nat→Prop} {w:World} {v:Value} {l:List KV} (h:ItemsAt F w v l) (hF:∀b,F b→b<w.heap.size→F' b):ItemsAt F' w v l:=by
 obtain⟨A,c,rfl,h1,h2,h3⟩:=h
 refine⟨A,c,rfl,h1,h2,fun hl=>?_⟩
 obtain⟨g,o,rfl,hF2,hc⟩:=h3 hl
 have h0:0<l.length:=by cases l<;>simp_all
 obtain⟨_,_,a1,_⟩:=hc 0 h0
 refine⟨g,o,rfl,hF g hF2 (World.block_lt_of_cell? w _ a1),fun j hj=>?_⟩
 obtain⟨kv,vv,b1,b2,b3,b4⟩:=hc j hj
 exact⟨kv,vv,b1,b2,b3.mono hF,b4.mono hF⟩
end Go.H
namespace Go.H
inductive Nm|page (id:Nat)|mem (n g o:Nat)
inductive T|node (nm:Nm) (l:List KV) (ks:List T)
namespace T
def nm:T→Nm|node a _ _=>a
def l:T→List KV|node _ l _=>l
def ks:T→List T|node _ _ k=>k
def id (t:T):Nat:=match t.nm with|.page id=>id|.mem ..=>0
def isPage (t:T):Prop:=match t.nm with|.page _=>True|.mem ..=>False
end T
def flat:Nat→T→List KV
 |0,_=>[]
 |d+1,.node _ l ks=>if d=0 then l else inter l (ks.map (flat d))
def KVok (x:KV):Prop:=1≤x.1.length∧x.1.length≤64∧x.2.length≤1800
def Shape:Nat→Nat→T→Prop
 |0,_,_=>False
 |d+1,m,.node _ l ks=>m≤l.length∧l.length≤4∧(∀x∈l,KVok x)∧(if d=0 then ks=[] else ks.length=l.length+1∧∀k∈ks,Shape d 2 k)
theorem Shape.mono {d m m':Nat} {t:T} (h:Shape d m t) (hm:m'≤m):Shape d m' t:=by
 cases d with
 |zero=>exact h
 |succ d=>cases t;exact⟨Nat.le_trans hm h.1,h.2⟩
inductive Th|pg (id:Nat)|cl (b o:Nat)
deriving DecidableEq
def Nm.cnt (x:Th) (k:Nat):Nm→Nat
 |.page id=>if x=.pg id then 1 else 0
 |.mem n g o=>(if x=.cl n 0 then 1 else 0)+(match x with|.cl b j=>if b=g∧o≤j∧j<o+k then 1 else 0|_=>0)
def sumN:List Nat→Nat
 |[]=>0
 |a::l=>a+sumN l
def cnt:Nat→Th→T→Nat
 |0,_,_=>0
 |d+1,x,.node nm _ ks=>nm.cnt x ks.length+sumN (ks.map (cnt d x))
def dirtyN:Nat→T→Nat
 |0,_=>0
 |d+1,.node nm _ ks=>match nm with|.page _=>0|.mem ..=>1+sumN (ks.map (dirtyN d))
theorem z74:∀(a b:List Nat),sumN (a++b)=sumN a+sumN b
 |[],b=>by simp[sumN]
 |x::a,b=>by simp[sumN,z74 a b];omega
theorem z75 {a:Nat}:∀{l:List Nat},a∈l→a≤sumN l
 | x :: l, h => by
   rcases List.mem_cons.1 h with rfl|h
   · simp[sumN]
   · have:=z75 h;simp only[sumN];omega
def encB (l:List KV) (ids:List Nat):List UInt8:=
 (if ids=[] then 1 else 2)::uintB l.length++(l.map fun x=>bytesB x.1++bytesB x.2).flatten++(ids.map uintB).flatten
end Go.H
end
namespace Go.Proofs.YtidalepbkljkpaaGreat
open Go.RowKit Go.H
set_option maxHeartbeats 1000000
set_option maxRecDepth 100000
section
abbrev wPage (id:Nat):Value:=.iface 3 (.int .i64 (id:Int))
abbrev wLeaf (n:Nat):Value:=.iface 220 (.pointer (some ⟨n,0,none⟩))
abbrev wInner (n:Nat):Value:=.iface 194 (.pointer (some ⟨n,0,none⟩))
def NodeAt (F:Nat→Prop) (w:World) (n g o id:Nat) (l:List KV) (kvs:List Value) (v:Value):Prop:=
 ∃ lv, w.cell? ⟨n, 0, none⟩ = some (.int .i64 (id : Int)) ∧ w.cell? ⟨n, 1, none⟩ = some lv ∧ ItemsAt F w lv l ∧
   ((kvs = [] ∧ v = wLeaf n) ∨ (kvs ≠ [] ∧ v = wInner n ∧ ∃ c, w.cell? ⟨n, 2, none⟩ = some (.slice (some ⟨g, o, none⟩) kvs.length c) ∧ kvs.length ≤ c ∧ c ≤ maxLen ∧
     ∀i u,kvs[i]?=some u→w.cell? ⟨g,o+i,none⟩=some u))
def Plain (w:World) (b:Nat):Prop:=∃cs e,w.heap[b]?=some (.cells cs e (0,0))
theorem Plain.fr {C:Nat→Prop} {w w':World} {b:Nat} (h:Plain w b) (hf:Fr C w w') (hb:¬C b):Plain w' b:=by
 obtain⟨cs,e,h⟩:=h
 exact⟨cs,e,hf.blk h hb⟩
theorem Plain.set {w:World} {b pb i:Nat} {v:Value} (h:Plain w b):Plain (w.setCell ⟨pb,i,none⟩ v) b:=by
 obtain⟨cs,e,h⟩:=h
 by_cases hp:pb=b
 · subst hp
   exact⟨_,_,z2j h v⟩
 · exact⟨cs,e,by rw[Below.heap_setCell _ _ _ _ (fun e=>hp e.symm)];exact h⟩
theorem Plain.free {w:World} {b:Nat} (h:Plain w b) (o:Nat):w.frozen? ⟨b,o,none⟩=false:=by
 obtain⟨cs,e,h⟩:=h
 exact z2i o h
def Rep (c:Nat→Nat) (rn:Nat) (w:World) (pg:Nat→Option Bs) (N:Nat) (X:Prop):Nat→T→Value→Prop
 |0,_,_=>False
 | d + 1, .node nm l ks, v => match nm with
   |.page id=>v=wPage id∧2≤id∧id<N∧(pg id=some (encB l (ks.map T.id))∨X∧pg id=none)∧∀k∈ks,k.isPage∧Rep c rn w pg N X d k (wPage k.id)
   |.mem n g o=>∃kvs,NodeAt (Dt c) w n g o 0 l kvs v∧c n=rn∧(kvs≠[]→c g=rn)∧All2 (Rep c rn w pg N X d) ks kvs∧Plain w n∧(kvs≠[]→Plain w g)
theorem NodeAt.fr {F C:Nat→Prop} {w w':World} {n g o id:Nat} {l:List KV} {kvs:List Value} {v:Value} (h:NodeAt F w n g o id l kvs v) (hf:Fr C w w') (hn:¬C n) (hg:kvs≠[]→¬C g) (hd:∀b,F b→¬C b):NodeAt F w' n g o id l kvs v:=by
 obtain⟨lv,h0,h1,h2,h3⟩:=h
 refine⟨lv,hf.cell h0 hn,hf.cell h1 hn,h2.fr hf hd,?_⟩
 rcases h3 with h3|⟨a,b,c,e1,e2,e3,e4⟩
 · exact .inl h3
 · exact .inr ⟨a,b,c,hf.cell e1 hn,e2,e3,fun i u hu=>hf.cell (e4 i u hu) (hg a)⟩
theorem NodeAt.mono {F F':Nat→Prop} {w:World} {n g o id:Nat} {l:List KV} {kvs:List Value} {v:Value} (h:NodeAt F w n g o id l kvs v) (hF:∀b,F b→b<w.heap.size→F' b):NodeAt F' w n g o id l kvs v:=by
 obtain⟨lv,h0,h1,h2,h3⟩:=h
 exact⟨lv,h0,h1,h2.mono hF,h3⟩
theorem NodeAt.lt {F:Nat→Prop} {w:World} {n g o id:Nat} {l:List KV} {kvs:List Value} {v:Value} (h:NodeAt F w n g o id l kvs v):n<w.heap.size∧(kvs≠[]→g<w.heap.size):=by
 obtain⟨lv,h0,h1,h2,h3⟩:=h
 refine⟨World.block_lt_of_cell? w _ h0,fun hk=>?_⟩
 rcases h3 with h3|⟨a,b,c,e1,e2,e3,e4⟩
 · exact absurd h3.1 hk
 · cases kvs with
   |nil=>exact absurd rfl hk
   |cons u kvs=>exact World.block_lt_of_cell? w _ (e4 0 u rfl)
theorem Rep.fr {C:Nat→Prop} {c:Nat→Nat} {rn:Nat} {w w':World} {pg:Nat→Option Bs} {N:Nat} {X:Prop} (hf:Fr C w w') (h1:∀b,C b→c b≠rn) (h2:∀b,C b→c b≠0):∀{d:Nat} {t:T} {v:Value},Rep c rn w pg N X d t v→Rep c rn w' pg N X d t v
 |0,_,_,h=>h.elim
 | d + 1, .node (.page id) l ks, v, h => by
   obtain⟨a,b,e,f,k⟩:=h
   exact⟨a,b,e,f,fun x hx=>⟨(k x hx).1,Rep.fr hf h1 h2 (k x hx).2⟩⟩
 | d + 1, .node (.mem n g o) l ks, v, h => by
   obtain⟨kvs,a,b,e,f,p1,p2⟩:=h
   exact⟨kvs,a.fr hf (fun k=>h1 _ k b) (fun hk k=>h1 _ k (e hk)) (fun b hb k=>h2 _ k hb),b,e,f.imp fun x y hx=>Rep.fr hf h1 h2 hx,p1.fr hf (fun k=>h1 _ k b),fun hk=>(p2 hk).fr hf (fun k=>h1 _ k (e hk))⟩
theorem Rep.fr0 {c:Nat→Nat} {rn:Nat} {w w':World} {pg:Nat→Option Bs} {N:Nat} {X:Prop} {d:Nat} {t:T} {v:Value} (h:Rep c rn w pg N X d t v) (hf:Fr C0 w w'):Rep c rn w' pg N X d t v:=Rep.fr hf (fun _ k=>k.elim) (fun _ k=>k.elim) h
theorem Rep.ag {c c':Nat→Nat} {rn:Nat} {w:World} {pg:Nat→Option Bs} {N:Nat} {X:Prop} (ha:Ag w.heap.size c c'):∀{d:Nat} {t:T} {v:Value},Rep c rn w pg N X d t v→Rep c' rn w pg N X d t v
 |0,_,_,h=>h.elim
 | d + 1, .node (.page id) l ks, v, h => by
   obtain⟨a,b,e,f,k⟩:=h
   exact⟨a,b,e,f,fun x hx=>⟨(k x hx).1,Rep.ag ha (k x hx).2⟩⟩
 | d + 1, .node (.mem n g o) l ks, v, h => by
   obtain⟨kvs,a,b,e,f,p⟩:=h
   exact⟨kvs,a.mono fun b hb hl=>(ha b hl).trans hb,(ha _ a.lt.1).trans b,fun hk=>(ha _ (a.lt.2 hk)).trans (e hk),f.imp fun x y hx=>Rep.ag ha hx,p⟩
theorem Rep.pg {c:Nat→Nat} {rn:Nat} {w:World} {pg pg':Nat→Option Bs} {N:Nat} {X:Prop}:∀{d:Nat} {t:T} {v:Value},(∀id,0<cnt d (.pg id) t→pg' id=pg id)→Rep c rn w pg N X d t v→Rep c rn w pg' N X d t v
 |0,_,_,_,h=>h.elim
 | d + 1, .node (.page id) l ks, v, hp, h => by
   obtain⟨a,b,e,f,k⟩:=h
   refine⟨a,b,e,by rw[hp id (by simp[cnt,Nm.cnt];omega)];exact f,fun x hx=>⟨(k x hx).1,Rep.pg (fun i hi=>hp i ?_) (k x hx).2⟩⟩
   have:=z75 (List.mem_map_of_mem (f:=cnt d (.pg i)) hx)
   simp only[cnt];omega
 | d + 1, .node (.mem n g o) l ks, v, hp, h => by
   obtain⟨kvs,a,b,e,f,p⟩:=h
   refine⟨kvs,a,b,e,f.imp_mem fun x y hx hr=>Rep.pg (fun i hi=>hp i ?_) hr,p⟩
   have:=z75 (List.mem_map_of_mem (f:=cnt d (.pg i)) hx)
   simp only[cnt];omega
end
section
def Num (w:World) (u:Value) (k:Nat):Prop:=u=wPage k∨∃n,(u=wLeaf n∨u=wInner n)∧w.cell? ⟨n,0,none⟩=some (.int .i64 (k:Int))
theorem Num.fr0 {w w':World} {u:Value} {k:Nat} (h:Num w u k) (hf:Fr C0 w w'):Num w' u k:=by
 rcases h with h|⟨n,h,hc⟩
 · exact .inl h
 · exact .inr ⟨n,h,hf.cell0 hc⟩
theorem Num.iface {w:World} {u:Value} {k:Nat} (h:Num w u k):∃tx y,u=.iface tx y:=by
 rcases h with rfl|⟨n,rfl|rfl,hc⟩<;>exact⟨_,_,rfl⟩
theorem z76 {w:World} {u:Value} {k:Nat} (h:Num w u k):Calls Tryz.prog 112 #[u] w fun e w'=>e=.returned (.int .i64 (k:Int))∧w=w':=by
 rcases h with rfl|⟨n,rfl|rfl,hc⟩
 · exact z60 _ _
 · exact z61 n _ w hc
 · exact z62 n _ w hc
theorem z77 {w:World} {u:Value} {k:Nat} (h:Num w u k):Calls Tryz.prog 168 #[u] w fun e w'=>e=.returned (.bool (decide (k=0)))∧w=w':=by
 have H:=zhd (z76 h)
 obtain⟨tx,y,rfl⟩:=h.iface
 clear h
 go_enter Tryz.func168,Tryz.ntmps168
 go_wp2_with fail
 refine H.out.mono ?_
 rintro e w1 ⟨rfl,rfl⟩
 go_wp2
 go_ret
 refine⟨?_,rfl⟩
 by_cases hk:k=0<;>simp[hk]
theorem Rep.num {c:Nat→Nat} {rn:Nat} {w:World} {pg:Nat→Option Bs} {N:Nat} {X:Prop}:∀{d:Nat} {t:T} {v:Value},Rep c rn w pg N X d t v→Num w v t.id
 |0,_,_,h=>h.elim
 |d+1,.node (.page id) l ks,v,h=>.inl h.1
 | d + 1, .node (.mem n g o) l ks, v, h => by
   obtain⟨kvs,⟨lv,h0,h1,h2,h3⟩,_⟩:=h
   rcases h3 with⟨_,rfl⟩|⟨_,rfl,_⟩
   · exact .inr ⟨n,.inl rfl,h0⟩
   · exact .inr ⟨n,.inr rfl,h0⟩
def Nums (w:World) (kvs:List Value) (ids:List Nat):Prop:=All2 (Num w) kvs ids
theorem Nums.fr0 {w w':World} {kvs:List Value} {ids:List Nat} (h:Nums w kvs ids) (hf:Fr C0 w w'):Nums w' kvs ids:=h.imp fun _ _ k=>k.fr0 hf
theorem All2.get {α β:Type} {R:α→β→Prop}:∀{l:List α} {m:List β} (i:Nat) (h:i<l.length) (h2:i<m.length),All2 R l m→R l[i] m[i]
 |_,_,i,h,_,.nil=>by simp at h
 |_,_,0,_,_,.cons h1 _=>h1
 |_,_,i+1,h,h2,.cons _ hr=>All2.get i (by simpa using h) (by simpa using h2) hr
end
section
theorem z78 {F:Nat→Prop} {w:World} {sv:Value} {s:List UInt8} (hs:BytesAt F w sv s) (hn:s.length<16384):Calls Tryz.prog 183 #[sv] w fun e w'=>∃v',e=.returned v'∧Fr C0 w w'∧w'.ownsRow w.heap.size 5 1 v' (bytesB s).length ((bytesB s).map bv):=by
 have HS:=zhd (hs.row.mono (F':=fun b=>b<w.heap.size) (fun b _ h=>h))
 obtain⟨A,c,rfl,h1,h2⟩:=hs.form
 clear hs
 unfold maxLen at h2
 go_enter Tryz.func183,Tryz.ntmps183
 go_wp2_with fail
 refine(z2x s.length hn w).mono ?_
 rintro e w1 ⟨v1,rfl,f1,o1⟩
 have hu:=z1b s.length
 have hul:(uintB s.length).length≤2:=by omega
 have O1:=zhd o1;have F1:=zhd f1;clear o1 f1 hu
 have hs1:=F1.out.size
 go_wp2_with (at_builtin;refine z0l z2o rfl _ _ rfl (v:=v1) (xv:=.slice A s.length c) rfl rfl O1.out (HS.out.fr0 F1.out) (z1c s) (by unfold maxLen;omega) (by omega) (by omega) ?_;intro v2 w2 o2 f2 k2 nil2)
 go_ret
 refine⟨v2,rfl,F1.out.transO f2 (fun b e=>(O1.out.lt _ e).1),?_⟩
 simpa [bytesB] using o2
theorem z79 {F:Nat→Prop} {w:World} {v:Value} {l rest:List UInt8} {at_ n:Nat} (hl:BytesAt F w v l) (hat:l.drop at_=uintB n++rest) (hn:n<16384) (hll:l.length≤8192) :
 Calls Tryz.prog 61 #[v,.int .i64 at_] w fun e w'=>e=.returned (.tuple #[.int .i64 n,.int .i64 ((at_+(uintB n).length:Nat):Int),.int .i64 0])∧w=w':=by
 obtain⟨A,c,rfl,h1,h2⟩:=hl.form
 unfold maxLen at h2
 have hlen:at_+((uintB n).length+rest.length)=l.length:=by
  have:=congrArg List.length hat
  have h0:=z1b n
  simp only[List.length_drop,List.length_append] at this
  omega
 by_cases h:n<128
 · have e1:uintB n=[UInt8.ofNat n]:=if_pos h
   rw[e1] at hat hlen
   have hb:∃hi:at_<l.length,l[at_]=UInt8.ofNat n:=by
    have:(l.drop at_)[0]?=some (UInt8.ofNat n):=by rw[hat];rfl
    rw[List.getElem?_drop] at this
    exact List.getElem?_eq_some_iff.1 this
   obtain⟨hi,hb⟩:=hb
   obtain⟨g,o,rfl,hF,hc⟩:=hl.at_ at_ hi
   rw[hb] at hc
   have hv:((UInt8.ofNat n).toNat:Int)=(n:Int):=by simp;omega
   rw[hv] at hc
   rw[e1]
   have HN:=zhd hlen
   clear hat hlen hl hb hv e1
   go_enter Tryz.func61,Tryz.ntmps61
   go_wp2
   refine wp_loop_rounds 1 ?_;rw[rounds_succ]
   go_wp2
   go_ret3
   refine⟨?_,rfl⟩
   have e:bits BinOp.or IntKind.i64 0 (wrap64 (bits BinOp.and IntKind.u8 (↑n) 127))=(n:Int):=by
    rw[z0v (by omega) (by omega),z0z (by omega) (by omega),z0y (by omega) (by omega)];omega
   simp[e]
 · have e1:uintB n=[UInt8.ofNat (128+n / 128),UInt8.ofNat (n % 128)]:=if_neg h
   rw[e1] at hat hlen
   have hb0:∃hi:at_<l.length,l[at_]=UInt8.ofNat (128+n / 128):=by
    have:(l.drop at_)[0]?=some (UInt8.ofNat (128+n / 128)):=by rw[hat];rfl
    rw[List.getElem?_drop] at this
    exact List.getElem?_eq_some_iff.1 this
   have hb1:∃hi:at_+1<l.length,l[at_+1]=UInt8.ofNat (n % 128):=by
    have:(l.drop at_)[1]?=some (UInt8.ofNat (n % 128)):=by rw[hat];rfl
    rw[List.getElem?_drop] at this
    exact List.getElem?_eq_some_iff.1 this
   obtain⟨hi,hb0⟩:=hb0
   obtain⟨hi1,hb1⟩:=hb1
   obtain⟨g,o,rfl,hF,hc⟩:=hl.at_ at_ hi
   obtain⟨g',o',he,hF',hc1⟩:=hl.at_ (at_+1) hi1
   injection he with he
   injection he with e2 e3 e4
   subst e2;subst e3
   rw[hb0] at hc
   rw[hb1] at hc1
   have hv:((UInt8.ofNat (128+n / 128)).toNat:Int)=128+(n:Int) / 128:=by simp;omega
   have hv1:((UInt8.ofNat (n % 128)).toNat:Int)=(n:Int) % 128:=by simp;omega
   rw[hv] at hc
   rw[hv1] at hc1
   rw[e1]
   have HN:=zhd hlen
   clear hat hlen hl hb0 hb1 hv hv1 e1
   have hn1:(n:Int) / 128<128:=by omega
   have hn2:1≤(n:Int) / 128:=by omega
   have hn3:0≤(n:Int) % 128:=by omega
   have hn4:(n:Int) % 128<128:=by omega
   have hne:((128+(n:Int) / 128) == 128)=false:=by simp;omega
   have hc1':w.cell? ⟨g,o+(at_+1),none⟩=some (.int .u8 ((n:Int) % 128)):=hc1
   go_enter Tryz.func61,Tryz.ntmps61
   go_wp2
   refine wp_loop_rounds 2 ?_;rw[rounds_succ]
   go_wp2
   rw[rounds_succ]
   go_wp2
   go_ret3
   refine⟨?_,rfl⟩
   have e:bits BinOp.or IntKind.i64 (wrap64 (bits BinOp.or IntKind.i64 0 (wrap64 (bits BinOp.and IntKind.u8 (128+↑n / 128) 127))*128)) (wrap64 (bits BinOp.and IntKind.u8 (↑n % 128) 127))=(n:Int):=by
    have a1:bits BinOp.and IntKind.u8 (128+(n:Int) / 128) 127=(n:Int) / 128:=by rw[z0v (by omega) (by omega)];omega
    have a2:bits BinOp.and IntKind.u8 ((n:Int) % 128) 127=(n:Int) % 128:=by rw[z0v (by omega) (by omega)];omega
    rw[a1,a2,z0z (y:=(n:Int) / 128) (by omega) (by omega),z0y (y:=(n:Int) / 128) (by omega) (by omega),z0z (y:=(n:Int) / 128*128) (by omega) (by omega),z0z (y:=(n:Int) % 128) (by omega) (by omega),z18 (by omega) (by omega) (by omega) (by omega)];omega
   have e3:(at_:Int)+1+1=((at_+2:Nat):Int):=by omega
   simp[e,e3]
theorem z7a {F:Nat→Prop} {w:World} {v:Value} {l s rest:List UInt8} {at_ most:Nat} (hl:BytesAt F w v l) (hat:l.drop at_=bytesB s++rest) (hm:s.length≤most) (hn:s.length<16384) (hll:l.length≤8192) (hmm:most≤100000) :
 Calls Tryz.prog 177 #[v,.int .i64 at_,.int .i64 most] w fun e w'=>∃v',e=.returned (.tuple #[v',.int .i64 ((at_+(bytesB s).length:Nat):Int),.int .i64 0])∧Fr C0 w w'∧w'.ownsRow w.heap.size 5 1 v' s.length (s.map bv):=by
 have hat1:l.drop at_=uintB s.length++(s++rest):=by rw[hat];simp[bytesB]
 have hu:=z1b s.length
 have hul:(uintB s.length).length≤2:=by omega
 have hlen:at_+((uintB s.length).length+(s.length+rest.length))=l.length:=by
  have:=congrArg List.length hat1
  simp only[List.length_drop,List.length_append] at this
  omega
 have hs:(l.drop (at_+(uintB s.length).length)).take s.length=s:=by
  rw[←List.drop_drop,hat1];simp
 have hbl:(bytesB s).length=(uintB s.length).length+s.length:=by simp[bytesB]
 have H0:=zhd hl
 obtain⟨A,c,rfl,h1,h2⟩:=hl.form
 unfold maxLen at h2
 have HAT:=zhd hat1
 obtain⟨k,hk⟩:∃k,k=(uintB s.length).length:=⟨_,rfl⟩
 have HK:=zhd hk
 have HS:=zhd hs
 have HBL:=zhd hbl
 have hb1:at_+k+s.length≤l.length:=by omega
 have hb2:k≤2:=by omega
 clear hl hat hat1 hu hul hlen hs hbl hk
 by_cases hck:c=at_+k
 · have hs0:s.length=0:=by omega
   obtain rfl:s=[]:=List.eq_nil_of_length_eq_zero hs0
   subst hck
   go_enter Tryz.func177,Tryz.ntmps177
   go_wp2_with fail
   refine(z79 H0.out HAT.out hn hll).mono ?_
   rintro e w1 ⟨rfl,rfl⟩
   rw[←HK.out]
   go_wp2_with (at_builtin;go_must (refine z0l z2o rfl _ _ rfl (v:=.slice none 0 0) (xv:=.slice A 0 (at_+k-(at_+k))) (F:=C0) rfl rfl (B:=w.heap.size) (World.ownsRow_nil _ _ _ _) ⟨A,_,rfl,Nat.zero_le _,by unfold maxLen;omega,rfl,fun h=>absurd rfl h⟩ (by simp) (by unfold maxLen;omega) (by omega) (by omega) ?_);intro v2 w2 o2 f2 k2 nil2)
   go_ret3
   refine⟨v2,?_,f2.mono (fun b _ h=>by simp[Value.ownBlock] at h),by simpa using o2⟩
   have hk1:=HK.out
   simp only[List.length_nil] at hk1
   simp[bytesB,hk1]
 · have hd:Row (fun b=>b<w.heap.size) w (.slice (A.map (fun x=>x.add (at_+k))) (at_+k+s.length-(at_+k)) (c-(at_+k))) s.length 1 (s.map bv):=by
    rw[show at_+k+s.length-(at_+k)=s.length by omega]
    have h3:=(H0.out.row.mono (F':=fun b=>b<w.heap.size) (fun b _ h=>h)).drop1 (i:=at_+k) (by omega)
    rw[if_neg hck] at h3
    have h4:=h3.take1 (i:=s.length) (by omega)
    rwa [←List.map_drop,←List.map_take,HK.out,HS.out,←HK.out] at h4
   have HD:=zhd hd;clear hd
   go_enter Tryz.func177,Tryz.ntmps177
   go_wp2_with fail
   refine(z79 H0.out HAT.out hn hll).mono ?_
   rintro e w1 ⟨rfl,rfl⟩
   rw[←HK.out]
   go_wp2_with (at_builtin;go_must (refine z0l z2o rfl _ _ rfl (v:=.slice none 0 0) (xv:=.slice (A.map (fun x=>x.add (at_+k))) (at_+k+s.length-(at_+k)) (c-(at_+k))) rfl rfl (B:=w.heap.size) (World.ownsRow_nil _ _ _ _) HD.out (z1c s) (by unfold maxLen;omega) (by omega) (by omega) ?_);intro v2 w2 o2 f2 k2 nil2)
   go_ret3
   refine⟨v2,?_,f2.mono (fun b _ h=>by simp[Value.ownBlock] at h),by simpa using o2⟩
   have hk1:=HK.out
   simp only[HBL.out,←hk1]
   simp
   omega
end
end Go.Proofs.YtidalepbkljkpaaGreat
