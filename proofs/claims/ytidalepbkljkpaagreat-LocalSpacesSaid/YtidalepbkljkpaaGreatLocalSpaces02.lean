import Derived.Test.YtidalepbkljkpaaGreatLocalSpaces01
import Derived.ArgAppend
set_option linter.all false
section
namespace Go.H
open Go.RowKit
def Row (F:Nat→Prop) (w:World) (v:Value) (n size:Nat) (xs:List Value):Prop:=
 ∃A c,v=.slice A n c∧n≤c∧c≤maxLen∧xs.length=n*size∧(xs≠[]→∃g o,A=some ⟨g,o,none⟩∧F g∧∀j u,xs[j]?=some u→w.cell? ⟨g,o+j,none⟩=some u)
theorem Row.fr {F C:Nat→Prop} {w w':World} {v:Value} {n size:Nat} {xs:List Value} (h:Row F w v n size xs) (hf:Fr C w w') (hd:∀b,F b→¬C b):Row F w' v n size xs:=by
 obtain⟨A,c,rfl,h1,h2,h3,h4⟩:=h
 refine⟨A,c,rfl,h1,h2,h3,fun hl=>?_⟩
 obtain⟨g,o,rfl,hF,hc⟩:=h4 hl
 exact⟨g,o,rfl,hF,fun j u hj=>hf.cell (hc j u hj) (hd g hF)⟩
theorem Row.fr0 {F:Nat→Prop} {w w':World} {v:Value} {n size:Nat} {xs:List Value} (h:Row F w v n size xs) (hf:Fr C0 w w'):Row F w' v n size xs:=h.fr hf (fun _ _ h=>h)
theorem Row.nil (F:Nat→Prop) (w:World) (size:Nat):Row F w (.slice none 0 0) 0 size []:=⟨none,0,rfl,Nat.le_refl _,by unfold maxLen;omega,by simp,fun h=>absurd rfl h⟩
theorem z0i {F:Nat→Prop} {w:World} {v:Value} {l:List UInt8}:BytesAt F w v l↔Row F w v l.length 1 (l.map bv):=by
 constructor
 · rintro⟨A,c,rfl,h1,h2,h3⟩
   refine⟨A,c,rfl,h1,h2,by simp,fun hl=>?_⟩
   obtain⟨g,o,rfl,hF,hc⟩:=h3 (by intro h;subst h;simp at hl)
   refine⟨g,o,rfl,hF,fun j u hj=>?_⟩
   obtain⟨hj1,hj2⟩:=List.getElem?_eq_some_iff.1 hj
   have hjl:j<l.length:=by simpa using hj1
   rw[hc j hjl,←hj2]
   simp
 · rintro⟨A,c,rfl,h1,h2,h3,h4⟩
   refine⟨A,c,rfl,h1,h2,fun hl=>?_⟩
   obtain⟨g,o,rfl,hF,hc⟩:=h4 (by intro h;exact hl (by simpa using h))
   exact⟨g,o,rfl,hF,fun j hj=>hc j _ (by simp[hj])⟩
theorem Row.ofOwn {F:Nat→Prop} {w:World} {B e size n:Nat} {v:Value} {xs:List Value} (h:w.ownsRow B e size v n xs) (hF:∀b,v.ownBlock=some b→F b):Row F w v n size xs:=by
 have hlen:=h.1
 rcases h.2 with⟨rfl,rfl⟩|⟨g,cap,cur,rfl,hb,hg,h1,h2,h3,h4⟩
 · obtain rfl:xs=[]:=List.eq_nil_of_length_eq_zero (by simpa using hlen)
   exact Row.nil F w size
 · refine⟨_,cap,rfl,h1,h2,hlen,fun _=>⟨g,0,rfl,hF g rfl,fun j u hj=>?_⟩⟩
   have:=h.cells (g:=g) rfl j u hj
   have ha:(⟨g,0,none⟩:Addr).add j=⟨g,j,none⟩:=by unfold Addr.add;split<;>simp_all
   rw[ha] at this
   rw[Nat.zero_add];exact this
structure SlTy (P:Program) (t e size bytes:Nat):Prop where
 u:P.underlying t=some (.slice e)
 info:∃i z,P.info? e=some i∧i.zero=some z∧i.size=size∧i.bytes=bytes∧z.cells.size=size
 pos:0<size
theorem Fr.ofGrown {w w':World} {v:Value} (h:w.grownBy w' v.ownBlock):Fr (fun b=>v.ownBlock=some b) w w':=
 ⟨h.os,h.output,h.size,fun k hk hn=>h.block k hk (fun e=>hn e.symm)⟩
theorem z0j {P:Program} {w:World} {t e size bytes ty B n m:Nat} {v xv:Value} {xs news:List Value} {F:Nat→Prop} (T:SlTy P t e size bytes) (own:w.ownsRow B e size v n xs) (src:Row F w xv m size news)
 (h1:∀u∈news,u.oneCell'=true) (h63:n+m≤maxLen) (hby:(n+m)*bytes≤140737488355328) (hB:B≤w.heap.size) :
 ∃v' w',(Builtin.append_ #[t,t] ty #[v,xv]).run P w=.ok v' w'∧w'.ownsRow B e size v' (n+m) (xs++news)∧Fr (fun b=>v.ownBlock=some b) w w'∧(∀b,v'.ownBlock=some b→v.ownBlock=some b∨w.heap.size≤b)∧(v'=.slice none 0 0↔v=.slice none 0 0∧m=0):=by
 obtain⟨i,z,hi,hz,hsz,hbt,hzs⟩:=T.info
 obtain⟨A,c,rfl,a1,a2,a3,a4⟩:=src
 have key:∀v' w',w'.ownsRow B e size v' (n+m) (xs++news)→w.grownBy w' v.ownBlock→(∀b,v'.ownBlock=some b→v.ownBlock=some b∨w.heap.size≤b)∨True:=fun _ _ _ _=>.inr trivial
 cases A with
 | none =>
   have hn0:news=[]:=by
    by_cases h:news=[]
    · exact h
    · obtain⟨g,o,h',_⟩:=a4 h;cases h'
   subst hn0
   have hm:m=0:=by
    rcases Nat.eq_zero_or_pos m with h|h
    · exact h
    · have:=Nat.mul_pos h T.pos;simp at a3;omega
   subst hm
   refine⟨v,w,?_,by simpa using own,Fr.refl _ _,fun b hb=>.inl hb,by simp⟩
   rcases own.2 with⟨rfl,rfl⟩|⟨g,cap,cur,rfl,hb,hg,hc,_⟩
   · simp[Builtin.append_,run_underlying T.u,sizeOf,typeInfo,hi,Builtin.lenOf,Builtin.firstCells]
   · simp[Builtin.append_,run_underlying T.u,sizeOf,typeInfo,hi,Builtin.lenOf,Builtin.firstCells,hc,storeCells]
 | some ad =>
   have hnews:∀j u,news[j]?=some u→w.cell? (ad.add j)=some u:=by
    intro j u hj
    obtain⟨g,o,h',hF,hc⟩:=a4 (by rintro rfl;simp at hj)
    injection h' with h'
    subst h'
    have ha:(⟨g,o,none⟩:Addr).add j=⟨g,o+j,none⟩:=by unfold Addr.add;split<;>simp_all
    rw[ha];exact hc j u hj
   obtain⟨v',w',r,o1,o2,o3⟩:=run_append_own (P:=P) w B t ty e i z size bytes T.u hi hz hsz hbt hzs T.pos v n xs own ad m c news a3 hnews h1 h63 hby hB
   have onb:∀b,v'.ownBlock=some b→v.ownBlock=some b∨w.heap.size≤b:=by
    intro b hb
    by_cases hvb:v.ownBlock=some b
    · exact .inl hvb
    · refine .inr (Nat.le_of_not_lt fun hlt=>?_)
      rcases own.2 with⟨rfl,rfl⟩|⟨g,cap,cur,rfl,hbg,hg,hnc,hcm,hcs,htake⟩
      · rcases Nat.eq_zero_or_pos m with hm|hm
        · obtain⟨rfl⟩:v'=.slice none 0 0:=o3.2 ⟨rfl,hm⟩
          simp[Value.ownBlock] at hb
        · have hr:=run_append_nil (P:=P) w t ty e i z T.u hi hz ad m c news (by rw[hsz];exact a3) hnews hm (by simp only[maxLen] at h63;omega) (by rw[hbt];simp only[Nat.zero_add] at hby;omega)
          rw[hr] at r
          injection r with r1 r2
          rw[←r1] at hb
          simp[Value.ownBlock] at hb
          omega
      · by_cases hroom:n+m≤cap
        · have hfit:n*i.size+news.length≤cur.size:=by rw[a3,hcs,hsz,←Nat.add_mul];exact Nat.mul_le_mul_right _ hroom
          have hr:=run_append_room (P:=P) w t ty e i T.u hi g n cap cur hg ad m c news (by rw[hsz];exact a3) hnews h1 hroom hfit
          rw[hr] at r
          injection r with r1 r2
          rw[←r1] at hb
          exact hvb hb
        · have holds:∀j u,xs[j]?=some u→w.cell? ((⟨g,0,none⟩:Addr).add j)=some u:=own.cells (g:=g) rfl
          have hr:=run_append_grow (P:=P) w t ty e i z T.u hi hz ⟨g,0,none⟩ n cap xs (by rw[hsz];exact own.1) holds ad m c news (by rw[hsz];exact a3) hnews (by omega) (by simp only[maxLen] at h63;omega) (growslice_fits (by omega) (by rw[hbt];exact hby))
          rw[hr] at r
          injection r with r1 r2
          rw[←r1] at hb
          simp[Value.ownBlock] at hb
          omega
   exact⟨v',w',r,o1,Fr.ofGrown o2,onb,o3⟩
theorem z0k {P:Program} {w:World} {o:Oper} {a:Act} {K:Act→World→Prop} {Q:Exit→Act→World→Prop} {t e size bytes B n m:Nat} {v xv:Value} {xs news:List Value} {F:Nat→Prop} (T:SlTy P t e size bytes) (s x:Operand)
 (ho:o.op=.call { callee:=.builtin .append,args:=#[s,x],argTypes:=#[t,t] }) (hs:a.eval s=v) (hx:a.eval x=xv) (own:w.ownsRow B e size v n xs) (src:Row F w xv m size news)
 (h1:∀u∈news,u.oneCell'=true) (h63:n+m≤maxLen) (hby:(n+m)*bytes≤140737488355328) (hB:B≤w.heap.size)
 (h:∀v' w',w'.ownsRow B e size v' (n+m) (xs++news)→Fr (fun b=>v.ownBlock=some b) w w'→(∀b,v'.ownBlock=some b→v.ownBlock=some b∨w.heap.size≤b)→(v'=.slice none 0 0↔v=.slice none 0 0∧m=0)→K (a.put o.dst v') w'):o.wp P a w K Q:=by
 obtain⟨v',w',hr,h2,h3,h4,h5⟩:=z0j (ty:=o.type) T own src h1 h63 hby hB
 unfold Oper.wp execOp
 simp only[ho,resolve,invoke,builtin,Sem.run_bind,Sem.run_pure,Result.andThen_ok,List.map_toArray,List.map_cons,List.map_nil,hs,hx,hr]
 exact h v' w' h2 h3 h4 h5
theorem z0l {P:Program} {w:World} {ops:Array Oper} {rest:List Oper} {o:Oper} {a:Act} {Q:Exit→Act→World→Prop} {t e size bytes B n m:Nat} {v xv:Value} {xs news:List Value} {F:Nat→Prop} (T:SlTy P t e size bytes) (hgd:o.guard=none) (s x:Operand)
 (ho:o.op=.call { callee:=.builtin .append,args:=#[s,x],argTypes:=#[t,t] }) (hs:a.eval s=v) (hx:a.eval x=xv) (own:w.ownsRow B e size v n xs) (src:Row F w xv m size news)
 (h1:∀u∈news,u.oneCell'=true) (h63:n+m≤maxLen) (hby:(n+m)*bytes≤140737488355328) (hB:B≤w.heap.size)
 (h:∀v' w',w'.ownsRow B e size v' (n+m) (xs++news)→Fr (fun b=>v.ownBlock=some b) w w'→(∀b,v'.ownBlock=some b→v.ownBlock=some b∨w.heap.size≤b)→(v'=.slice none 0 0↔v=.slice none 0 0∧m=0)→wpList P ops Q rest (a.put o.dst v') w'):wpList P ops Q (o::rest) a w:=
 wpList_plain hgd fun K hK=>z0k T s x ho hs hx own src h1 h63 hby hB fun v' w' h2 h3 h4 h5=>hK _ _ (h v' w' h2 h3 h4 h5)
theorem z0m {w w':World} {B e size n:Nat} {v:Value} {xs:List Value} {C:Nat→Prop} (h:w.ownsRow B e size v n xs) (hf:Fr C w w') (hc:∀b,v.ownBlock=some b→¬C b):w'.ownsRow B e size v n xs:=by
 refine⟨h.1,?_⟩
 rcases h.2 with h'|⟨g,cap,cur,rfl,hb,hg,rest⟩
 · exact .inl h'
 · exact .inr ⟨g,cap,cur,rfl,hb,(hf.block g (Array.getElem?_eq_some_iff.1 hg).1 (hc g rfl)).trans hg,rest⟩
theorem z0n {w:World} {B B' e size n:Nat} {v:Value} {xs:List Value} (h:w.ownsRow B e size v n xs) (hB:∀b,v.ownBlock=some b→B'≤b):w.ownsRow B' e size v n xs:=by
 refine⟨h.1,?_⟩
 rcases h.2 with h'|⟨g,cap,cur,rfl,hb,rest⟩
 · exact .inl h'
 · exact .inr ⟨g,cap,cur,rfl,hB g rfl,rest⟩
theorem z0o {w:World} {B e size n:Nat} {v:Value} {xs:List Value} (h:w.ownsRow B e size v n xs):∃A c,v=.slice A n c∧(∀a,A=some a→∃g,a=⟨g,0,none⟩):=by
 rcases h.2 with⟨rfl,rfl⟩|⟨g,cap,cur,rfl,_⟩
 · exact⟨none,0,rfl,by simp⟩
 · exact⟨_,cap,rfl,fun a ha=>⟨g,by injection ha with ha;exact ha.symm⟩⟩
end Go.H
namespace Go.H
open Go.RowKit
theorem Row.take {F:Nat→Prop} {w:World} {A:Option Addr} {n c size i:Nat} {xs:List Value} (h:Row F w (.slice A n c) n size xs) (hi:i≤n):Row F w (.slice A i c) i size (xs.take (i*size)):=by
 obtain⟨A',c',he,h1,h2,h3,h4⟩:=h
 injection he with e1 e2 e3
 subst e1;subst e3
 refine⟨A,c,rfl,by omega,h2,?_,fun hne=>?_⟩
 · rw[List.length_take,h3];exact Nat.min_eq_left (Nat.mul_le_mul_right _ hi)
 · obtain⟨g,o,rfl,hF,hc⟩:=h4 (by rintro rfl;simp at hne)
   exact⟨g,o,rfl,hF,fun j u hj=>hc j u (by rw[List.getElem?_take] at hj;split at hj;exact hj;cases hj)⟩
theorem Row.drop {F:Nat→Prop} {w:World} {A:Option Addr} {n c size i:Nat} {xs:List Value} (h:Row F w (.slice A n c) n size xs) (hi:i≤n) :
 Row F w (.slice (if c=i then A else A.map (·.add (i*size))) (n-i) (c-i)) (n-i) size (xs.drop (i*size)):=by
 obtain⟨A',c',he,h1,h2,h3,h4⟩:=h
 injection he with e1 e2 e3
 subst e1;subst e3
 refine⟨_,_,rfl,by omega,by omega,?_,fun hne=>?_⟩
 · rw[List.length_drop,h3,Nat.sub_mul]
 · have hne':xs≠[]:=by rintro rfl;simp at hne
   obtain⟨g,o,rfl,hF,hc⟩:=h4 hne'
   have hci:c≠i:=by
    rintro rfl
    apply hne
    have:n=c:=by omega
    subst this
    exact List.drop_of_length_le (by rw[h3];exact Nat.le_refl _)
   have ha:(⟨g,o,none⟩:Addr).add (i*size)=⟨g,o+i*size,none⟩:=by unfold Addr.add;split<;>simp_all
   refine⟨g,o+i*size,by rw[if_neg hci];simp[ha],hF,fun j u hj=>?_⟩
   rw[List.getElem?_drop] at hj
   have:=hc _ u hj
   rwa [Nat.add_assoc]
theorem Row.form {F:Nat→Prop} {w:World} {v:Value} {n size:Nat} {xs:List Value} (h:Row F w v n size xs):∃A c,v=.slice A n c∧n≤c∧c≤maxLen:=by
 obtain⟨A,c,rfl,h1,h2,_⟩:=h;exact⟨A,c,rfl,h1,h2⟩
theorem Row.cells {F:Nat→Prop} {w:World} {A:Option Addr} {c n size:Nat} {xs:List Value} (h:Row F w (.slice A n c) n size xs) {i:Nat} {u:Value} (hi:xs[i]?=some u):∃g o,A=some ⟨g,o,none⟩∧F g∧∀j u,xs[j]?=some u→w.cell? ⟨g,o+j,none⟩=some u:=by
 obtain⟨A',c',e,h1,h2,_,h4⟩:=h
 injection e with e1 e2 e3
 subst e1
 exact h4 (by rintro rfl;simp at hi)
theorem Row.len {F:Nat→Prop} {w:World} {v:Value} {n size:Nat} {xs:List Value} (h:Row F w v n size xs):xs.length=n*size:=by
 obtain⟨A,c,rfl,h1,h2,h3,_⟩:=h;exact h3
theorem Row.ofBlock {F:Nat→Prop} {w:World} {g n size:Nat} {cs:Array Value} {e:Nat} {fr:Nat×Nat} (hb:w.heap[g]?=some (.cells cs e fr)) (hF:F g) (hm:n≤maxLen) (hs:cs.size=n*size):Row F w (.slice (some ⟨g,0,none⟩) n n) n size cs.toList:=
 ⟨_, n, rfl, Nat.le_refl _, hm, by simpa using hs, fun _ => ⟨g, 0, rfl, hF, fun j u hj => by
  rw[Nat.zero_add,cell_of_row w g j cs e fr hb];simpa using hj⟩⟩
theorem Row.mono {F F':Nat→Prop} {w:World} {v:Value} {n size:Nat} {xs:List Value} (h:Row F w v n size xs) (hF:∀b,F b→b<w.heap.size→F' b):Row F' w v n size xs:=by
 obtain⟨A,c,rfl,h1,h2,h3,h4⟩:=h
 refine⟨A,c,rfl,h1,h2,h3,fun hl=>?_⟩
 obtain⟨g,o,rfl,hF2,hc⟩:=h4 hl
 obtain⟨u,hu⟩:∃u,xs[0]?=some u:=by cases xs with|nil=>exact absurd rfl hl|cons x xs=>exact⟨x,rfl⟩
 exact⟨g,o,rfl,hF g hF2 (World.block_lt_of_cell? w _ (hc 0 u hu)),hc⟩
end Go.H
namespace Go.H
open Go.RowKit
theorem Fr.cellO {w0 w w':World} {v:Value} {B e size n:Nat} {xs:List Value} (h:Fr (fun b=>v.ownBlock=some b) w w') (o:w0.ownsRow B e size v n xs) {p:Addr} {u:Value} (hv:w.cell? p=some u) (hp:p.block<B):w'.cell? p=some u:=
 h.cell hv (fun e=>by have:=(o.lt _ e).1;omega)
theorem Fr.transO {C:Nat→Prop} {w w1 w2:World} {v:Value} (h:Fr C w w1) (k:Fr (fun b=>v.ownBlock=some b) w1 w2) (hv:∀b,v.ownBlock=some b→w.heap.size≤b):Fr C w w2:=
 h.trans k (fun b hb e=>absurd (hv b e) (by omega))
theorem z0p {xs:List Value} {k:Nat} (h:∀u∈xs,u.oneCell'=true):∀u∈xs.take k,u.oneCell'=true:=fun u hu=>h u (List.mem_of_mem_take hu)
theorem z0q {xs:List Value} {k:Nat} (h:∀u∈xs,u.oneCell'=true):∀u∈xs.drop k,u.oneCell'=true:=fun u hu=>h u (List.mem_of_mem_drop hu)
end Go.H
namespace Go.H
open Go.RowKit
theorem Row.take1 {F:Nat→Prop} {w:World} {A:Option Addr} {n c i:Nat} {xs:List Value} (h:Row F w (.slice A n c) n 1 xs) (hi:i≤n):Row F w (.slice A i c) i 1 (xs.take i):=by
 simpa using h.take hi
theorem Row.drop1 {F:Nat→Prop} {w:World} {A:Option Addr} {n c i:Nat} {xs:List Value} (h:Row F w (.slice A n c) n 1 xs) (hi:i≤n) :
 Row F w (.slice (if c=i then A else A.map (·.add i)) (n-i) (c-i)) (n-i) 1 (xs.drop i):=by
 simpa using h.drop hi
theorem z0r {P:Program} {w:World} {ops:Array Oper} {rest:List Oper} {o:Oper} {a:Act} {Q:Exit→Act→World→Prop} {t e size bytes n m:Nat} {xv:Value} {xs news:List Value} {F G:Nat→Prop} {A:Option Addr} (T:SlTy P t e size bytes) (hgd:o.guard=none) (s x:Operand)
 (ho:o.op=.call { callee:=.builtin .append,args:=#[s,x],argTypes:=#[t,t] }) (hs:a.eval s=.slice A n n) (hx:a.eval x=xv) (own:Row G w (.slice A n n) n size xs) (hn:0<n) (src:Row F w xv m size news) (hm:0<m)
 (h63:n+m≤maxLen) (hby:(n+m)*bytes≤140737488355328)
 (h:∀v' w',w'.ownsRow w.heap.size e size v' (n+m) (xs++news)→Fr C0 w w'→wpList P ops Q rest (a.put o.dst v') w'):wpList P ops Q (o::rest) a w:=
 wpList_plain hgd fun K hK=>by
  obtain⟨i,z,hi,hz,hsz,hbt,hzs⟩:=T.info
  have hxl:=own.len
  have hnl:=src.len
  have hx0:xs≠[]:=by rintro rfl;have:=Nat.mul_pos hn T.pos;simp at hxl;omega
  have hn0:news≠[]:=by rintro rfl;have:=Nat.mul_pos hm T.pos;simp at hnl;omega
  obtain⟨_,_,e1,_,_,_,a4⟩:=own
  obtain⟨A',c',rfl,_,_,_,b4⟩:=src
  injection e1 with e1 e2 e3
  subst e1
  obtain⟨g,off,rfl,_,hc⟩:=a4 hx0
  obtain⟨g',off',rfl,_,hc'⟩:=b4 hn0
  have hadd:∀(g o j:Nat),(⟨g,o,none⟩:Addr).add j=⟨g,o+j,none⟩:=fun g o j=>by unfold Addr.add;split<;>simp_all
  obtain⟨v',w',hr,r1,r2⟩:=run_append_arg_grows (P:=P) w t o.type e i z size bytes T.u hi hz hsz hbt hzs T.pos ⟨g,off,none⟩ n n xs hxl (fun j u hj=>by rw[hadd];exact hc j u hj) ⟨g',off',none⟩ m c' news hnl (fun j u hj=>by rw[hadd];exact hc' j u hj) (by omega) h63 hby
  unfold Oper.wp execOp
  simp only[ho,resolve,invoke,builtin,Sem.run_bind,Sem.run_pure,Result.andThen_ok,List.map_toArray,List.map_cons,List.map_nil,hs,hx,hr]
  exact hK _ _ (h v' w' r1 ⟨r2.os,r2.output,r2.size,fun k hk _=>r2.block k hk (by simp)⟩)
end Go.H
end
section
namespace Go.H
open Go.RowKit
theorem z0s (k:IntKind) (x y:Int):bits .or k x y=bits .or k y x:=by
 unfold bits;simp only[BitVec.or_comm]
theorem z0t (n:Int) (h₀:0≤n) (h₁:n<2 ^ 62):IntKind.i64.wrap n=n:=by
 rw[IntKind.wrap_i64]
 have:(2:Int) ^ 62=4611686018427387904:=by decide
 omega
theorem z0u {x:Int} (h₀:0≤x) (h₁:x<4611686018427387904):bits .and .i64 x 127=x % 128:=bits_mask .i64 62 (by decide) z0t 7 (by decide) x h₀ h₁
theorem z0v {x:Int} (h₀:0≤x) (h₁:x<256):bits .and .u8 x 127=x % 128:=bits_mask .u8 8 (by decide) wraps_u8 7 (by decide) x h₀ h₁
theorem z0x {x:Int} (h₀:0≤x) (h₁:x<128):bits .or .u8 x 128=x+128:=by
 rw[z0s,bits_join .u8 8 (by decide) wraps_u8 7 128 x (by decide) (by decide) (by decide) h₀ (by omega) (by omega)]
 omega
theorem z0y {y:Int} (h₀:0≤y) (h₁:y<128):bits .or .i64 0 y=y:=by
 rw[bits_join .i64 62 (by decide) z0t 7 0 y (by decide) (by decide) (by decide) h₀ (by omega) (by omega)];omega
theorem z0z {y:Int} (h₀:-128≤y) (h₁:y<4611686018427387904):wrap64 y=y:=by unfold wrap64;omega
theorem z18 {x y:Int} (hx:0≤x) (hx1:x<36028797018963968) (h₀:0≤y) (h₁:y<128):bits .or .i64 (x*128) y=x*128+y:=by
 exact bits_join .i64 62 (by decide) z0t 7 (x*128) y (by omega) (by omega) (by omega) h₀ (by omega) (by omega)
theorem z19 (n:Int) (h₀:0≤n) (h₁:n<2 ^ 64):IntKind.u64.wrap n=n:=by
 rw[IntKind.wrap_u64]
 have:(2:Int) ^ 64=18446744073709551616:=by decide
 omega
theorem z1a {x y:Int} (hx:0≤x) (hx1:x*256<18446744073709551616) (h₀:0≤y) (h₁:y<256):bits .or .u64 (x*256) y=x*256+y:=by
 exact bits_join .u64 64 (by decide) z19 8 (x*256) y (by omega) (by omega) (by omega) h₀ (by omega) (by omega)
def uintB (n:Nat):List UInt8:=if n<128 then[UInt8.ofNat n] else[UInt8.ofNat (128+n / 128),UInt8.ofNat (n % 128)]
def bytesB (s:List UInt8):List UInt8:=uintB s.length++s
theorem z1b (n:Nat):(uintB n).length=1∨(uintB n).length=2:=by unfold uintB;split<;>simp
theorem z1c (l:List UInt8):∀u∈l.map bv,u.oneCell'=true:=by
 intro u hu
 obtain⟨x,_,rfl⟩:=List.mem_map.1 hu
 rfl
theorem BytesAt.row {F:Nat→Prop} {w:World} {v:Value} {l:List UInt8} (h:BytesAt F w v l):Row F w v l.length 1 (l.map bv):=z0i.1 h
theorem BytesAt.ofOwn {F:Nat→Prop} {w:World} {B e:Nat} {v:Value} {l:List UInt8} (h:w.ownsRow B e 1 v l.length (l.map bv)) (hF:∀b,v.ownBlock=some b→F b):BytesAt F w v l:=z0i.2 (Row.ofOwn h hF)
theorem BytesAt.form {F:Nat→Prop} {w:World} {v:Value} {l:List UInt8} (h:BytesAt F w v l):∃A c,v=.slice A l.length c∧l.length≤c∧c≤maxLen:=by
 obtain⟨A,c,rfl,h1,h2,_⟩:=h;exact⟨A,c,rfl,h1,h2⟩
theorem BytesAt.at_ {F:Nat→Prop} {w:World} {A:Option Addr} {n c:Nat} {l:List UInt8} (h:BytesAt F w (.slice A n c) l) (i:Nat) (hi:i<l.length):∃g o,A=some ⟨g,o,none⟩∧F g∧w.cell? ⟨g,o+i,none⟩=some (.int .u8 (l[i].toNat:Int)):=by
 obtain⟨A',c',he,h1,h2,h3⟩:=h
 injection he with e1 e2 e3
 subst e1;subst e3
 obtain⟨g,o,rfl,hF,hc⟩:=h3 (by rintro rfl;simp at hi)
 exact⟨g,o,rfl,hF,hc i hi⟩
theorem BytesAt.take {F:Nat→Prop} {w:World} {A:Option Addr} {n c i:Nat} {l:List UInt8} (h:BytesAt F w (.slice A n c) l) (hi:i≤l.length):BytesAt F w (.slice A i c) (l.take i):=by
 obtain⟨A',c',he,h1,h2⟩:=h.form
 injection he with e1 e2 e3
 subst e2
 have:=(h.row.take1 hi)
 rw[←List.map_take] at this
 exact z0i.2 (by simpa [Nat.min_eq_left hi] using this)
theorem BytesAt.drop {F:Nat→Prop} {w:World} {A:Option Addr} {n c i:Nat} {l:List UInt8} (h:BytesAt F w (.slice A n c) l) (hi:i≤l.length):BytesAt F w (.slice (if c=i then A else A.map (·.add i)) (n-i) (c-i)) (l.drop i):=by
 obtain⟨A',c',he,h1,h2⟩:=h.form
 injection he with e1 e2 e3
 subst e2
 have:=(h.row.drop1 hi)
 rw[←List.map_drop] at this
 exact z0i.2 (by simpa using this)
end Go.H
namespace Go.H
open Go.RowKit
theorem z1d {P:Program} {F:Nat→Prop} {w:World} {v:Value} {l:List UInt8} {src dst e:TypeId} (h:BytesAt F w v l) (hs:P.underlying src=some (.slice e)) (he:P.underlying e=some (.int .u8)) (hd:P.underlying dst=some .string) :
 (convert src dst v).run P w=.ok (.string ⟨l.toArray⟩) w:=by
 obtain⟨A,c,rfl,h1,h2,h3⟩:=h
 cases l with
 | nil =>
   cases A with
   |none=>exact run_convert_bytes_nil w src e hs he 0 c dst hd
   |some a=>exact run_convert_bytes_back w src dst e a c [] hs he hd (by simp)
 | cons x l =>
   obtain⟨g,o,rfl,hF,hc⟩:=h3 (by simp)
   exact run_convert_bytes_back w src dst e ⟨g,o,none⟩ c (x::l) hs he hd (fun j hj=>by
    have ha:(⟨g,o,none⟩:Addr).add j=⟨g,o+j,none⟩:=by unfold Addr.add;split<;>simp_all
    rw[ha];exact hc j hj)
theorem z1e (a b:List UInt8):((⟨a.toArray⟩:ByteArray) == ⟨b.toArray⟩)=decide (a=b):=by
 rw[show((⟨a.toArray⟩:ByteArray) == ⟨b.toArray⟩)=(a.toArray == b.toArray) from rfl,Bool.eq_iff_iff]
 simp
def bigB (u n:Nat):List UInt8:=match n with
 |0=>[]
 |n+1=>UInt8.ofNat (u / 256 ^ n)::bigB u n
theorem z1f (u:Nat):∀n,(bigB u n).length=n
 |0=>rfl
 |n+1=>by simp[bigB,z1f u n]
def smallN (l:List UInt8):Nat:=l.foldl (fun u c=>u*256+c.toNat) 0
theorem z1g (l:List UInt8) (c:UInt8):smallN (l++[c])=smallN l*256+c.toNat:=by simp[smallN]
theorem z1h (u:Nat):∀n a,(bigB u n).foldl (fun u c=>u*256+c.toNat) a=a*256 ^ n+u % 256 ^ n
 |0,a=>by simp[bigB,Nat.mod_one]
 | n + 1, a => by
   simp only[bigB,List.foldl_cons]
   rw[z1h u n]
   have h1:(UInt8.ofNat (u / 256 ^ n)).toNat=u / 256 ^ n % 256:=by simp
   have h2:u % 256 ^ (n+1)=u % 256 ^ n+256 ^ n*(u / 256 ^ n % 256):=by rw[Nat.pow_succ,Nat.mod_mul]
   rw[h1,h2,Nat.add_mul,Nat.pow_succ,Nat.mul_assoc,Nat.mul_comm 256 (256 ^ n),Nat.mul_comm (u / 256 ^ n % 256)]
   omega
theorem z1i (u n:Nat):smallN (bigB u n)=u % 256 ^ n:=by unfold smallN;rw[z1h];simp
theorem z1j:∀(l:List UInt8) (a:Nat),l.foldl (fun u c=>u*256+c.toNat) a<(a+1)*256 ^ l.length
 |[],a=>by simp
 | c :: l, a => by
   have h1:=z1j l (a*256+c.toNat)
   have h2:=c.toNat_lt
   simp only[List.foldl_cons,List.length_cons,Nat.pow_succ]
   refine Nat.lt_of_lt_of_le h1 ?_
   rw[Nat.mul_comm (256 ^ l.length) 256,←Nat.mul_assoc]
   exact Nat.mul_le_mul_right _ (by omega)
theorem z1k (l:List UInt8):smallN l<256 ^ l.length:=by have:=z1j l 0;simpa [smallN] using this
def zerosV (n:Nat):List Value:=(List.replicate n (0:UInt8)).map bv
theorem z1l (n:Nat):(zerosV n).length=n:=by simp[zerosV]
def splice {α:Type} (L:List α) (off:Nat) (cs:List α):List α:=L.take off++(cs++L.drop (off+cs.length))
theorem z1m {P:Program} {w:World} {bytes t e ty g off dLen dCap m:Nat} {F:Nat→Prop} {xv:Value} {news:List Value} {cur:List Value} (T:SlTy P t e 1 bytes) (hg:w.heap[g]?=some (.cells cur.toArray e (0,0))) (src:Row F w xv m 1 news)
 (h1:∀u∈news,u.oneCell'=true) (hfit:off+min m dLen≤cur.length) :
 ∃w',(Builtin.copy_ #[t,t] ty #[.slice (some ⟨g,off,none⟩) dLen dCap,xv]).run P w=.ok (goInt ((min m dLen:Nat):Int)) w'∧w'.heap[g]?=some (.cells (splice cur off (news.take (min m dLen))).toArray e (0,0))∧Fr (fun b=>b=g) w w':=by
 obtain⟨i,z,hi,hz,hsz,hbt,hzs⟩:=T.info
 have hsize:(P.info? e).map (·.size)=some 1:=by rw[hi];simp[hsz]
 obtain⟨A,c,rfl,a1,a2,a3,a4⟩:=src
 have hnl:news.length=m:=by simpa using a3
 by_cases h0:min m dLen=0
 · refine⟨w,?_,by rw[h0];simpa [splice] using hg,Fr.refl _ _⟩
   rw[h0]
   exact run_copy_none (P:=P) w t t ty e (some ⟨g,off,none⟩) A dLen dCap m c T.u hsize h0
 · have hne:news≠[]:=by intro h;rw[h] at hnl;simp at hnl;omega
   obtain⟨g',o',rfl,hF,hc⟩:=a4 hne
   have hlen:(news.take (min m dLen)).length=Nat.min m dLen:=by rw[List.length_take,hnl];exact Nat.min_eq_left (Nat.min_le_left _ _)
   have hr:=run_copy_row (P:=P) w t t ty e g off dLen dCap ⟨g',o',none⟩ m c cur.toArray e (news.take (min m dLen)) T.u hsize hg hlen
    (fun j v hj => by
     have ha:(⟨g',o',none⟩:Addr).add j=⟨g',o'+j,none⟩:=by unfold Addr.add;split<;>simp_all
     rw[ha];exact hc j v (by rw[List.getElem?_take] at hj;split at hj;exact hj;cases hj))
    (by simpa [hlen] using hfit) (fun v hv=>h1 v (List.mem_of_mem_take hv))
   have hmin:Nat.min m dLen=min m dLen:=rfl
   rw[hlen,hmin] at hr
   refine⟨w.setRow g (cur.toArray.toList.take off++news.take (min m dLen)++cur.toArray.toList.drop (off+min m dLen)).toArray,hr,?_,⟨rfl,rfl,by simp[World.setRow],fun k hk hn=>setRow_other w g k _ hn⟩⟩
   rw[setRow_heap w g _ _ e _ hg]
   have hl2:min m (min dLen news.length)=min m dLen:=by rw[hnl];omega
   simp[splice,hl2]
theorem z1n {P:Program} {w:World} {ops:Array Oper} {rest:List Oper} {o:Oper} {a:Act} {Q:Exit→Act→World→Prop} {t e g off dLen dCap m bytes:Nat} {F:Nat→Prop} {xv:Value} {news:List Value} {cur:List Value} (T:SlTy P t e 1 bytes) (hgd:o.guard=none) (d s:Operand)
 (ho:o.op=.call { callee:=.builtin .copy,args:=#[d,s],argTypes:=#[t,t] }) (hd:a.eval d=.slice (some ⟨g,off,none⟩) dLen dCap) (hs:a.eval s=xv) (hg:w.heap[g]?=some (.cells cur.toArray e (0,0))) (src:Row F w xv m 1 news)
 (h1:∀u∈news,u.oneCell'=true) (hfit:off+min m dLen≤cur.length)
 (h:∀w',w'.heap[g]?=some (.cells (splice cur off (news.take (min m dLen))).toArray e (0,0))→Fr (fun b=>b=g) w w'→wpList P ops Q rest (a.put o.dst (.int .i64 ((min m dLen:Nat):Int))) w'):wpList P ops Q (o::rest) a w:=
 wpList_plain hgd fun K hK=>by
  obtain⟨w',hr,h2,h3⟩:=z1m (ty:=o.type) (dCap:=dCap) T hg src h1 hfit
  unfold Oper.wp execOp
  simp only[ho,resolve,invoke,builtin,Sem.run_bind,Sem.run_pure,Result.andThen_ok,List.map_toArray,List.map_cons,List.map_nil,hd,hs,hr]
  exact hK _ _ (h w' h2 h3)
theorem z1o {P:Program} {w:World} {K:Act→World→Prop} {o:Oper} {a:Act} {Q:Exit→Act→World→Prop} {t e g off dLen dCap m bytes:Nat} {F:Nat→Prop} {xv:Value} {news:List Value} {cur:List Value} (T:SlTy P t e 1 bytes) (d s:Operand)
 (ho:o.op=.call { callee:=.builtin .copy,args:=#[d,s],argTypes:=#[t,t] }) (hd:a.eval d=.slice (some ⟨g,off,none⟩) dLen dCap) (hs:a.eval s=xv) (hg:w.heap[g]?=some (.cells cur.toArray e (0,0))) (src:Row F w xv m 1 news)
 (h1:∀u∈news,u.oneCell'=true) (hfit:off+min m dLen≤cur.length)
 (h:∀w',w'.heap[g]?=some (.cells (splice cur off (news.take (min m dLen))).toArray e (0,0))→Fr (fun b=>b=g) w w'→K (a.put o.dst (.int .i64 ((min m dLen:Nat):Int))) w'):o.wp P a w K Q:=by
 obtain⟨w',hr,h2,h3⟩:=z1m (ty:=o.type) (dCap:=dCap) T hg src h1 hfit
 unfold Oper.wp execOp
 simp only[ho,resolve,invoke,builtin,Sem.run_bind,Sem.run_pure,Result.andThen_ok,List.map_toArray,List.map_cons,List.map_nil,hd,hs,hr]
 exact h w' h2 h3
end Go.H
end
