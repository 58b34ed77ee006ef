import Derived.Test.YtidalepbkljkpaaGreatLocalSpaces23
import Derived.Test.YtidalepbkljkpaaGreatLocalSpaces24
import Derived.Test.YtidalepbkljkpaaGreatLocalSpaces19
import Derived.Test.YtidalepbkljkpaaGreatLocalSpaces03
import Derived.Test.YtidalepbkljkpaaGreatLocalSpaces16
set_option linter.all false
namespace Go.Proofs.YtidalepbkljkpaaGreat
open Go.RowKit Go.H
set_option maxHeartbeats 2000000
set_option maxRecDepth 100000
section
theorem zbo {r rn q st tp wp:Nat} {S:SSt} {D:DSt} {x:KV} {kv vv:Value} (hq0:q≠0) (hqr:q≠r) (hqn:q≠rn) (hr0:rn≠0) (d:Nat):PutIH r rn q st tp wp S D x kv vv d:=by
 induction d with
 |zero=>intro m c w t v gone hh hc hw hr;exact hr.elim
 | succ d ih =>
   intro m c w t v gone hh hc hw hr hs hm hso hk hv hx hg
   by_cases hd:d=0
   · subst hd
     exact zaz hq0 hqr hqn hr0 hh hc hw hr hs hm hso hk hv hx (by omega)
   · cases hf:(findL x.1 t.l).2 with
     |true=>exact zbm hq0 hqr hqn hr0 hh hc hw hr hd ih hs hm hso hk hv hx hg hf
     |false=>exact zbn hq0 hqr hqn hr0 hh hc hw hr hd ih hs hm hso hk hv hx hg hf
end
section
def rootD:Root→Nat
 |none=>0
 |some (d,_)=>d
def rcnt (x:Th):Root→Nat
 |none=>0
 |some (d,t)=>cnt d x t
def RootSh:Root→Prop
 |none=>True
 |some (d,t)=>Shape d 1 t
structure RAcc (n0:Nat) (o o':Root) (gone gone':List Nat):Prop where
 pg:∀id,rcnt (.pg id) o'+gone'.count id=rcnt (.pg id) o+gone.count id
 cl:∀b j,rcnt (.cl b j) o'≤if b<n0 then rcnt (.cl b j) o else 1
 dirty:rootDirty o'≤rootDirty o+2*rootD o+1
 len:gone'.length≤gone.length+rootD o
theorem zbp {w:World} {c:Nat→Nat} (hc:Cl w c) (a b:Nat):∃q,(∀k,c k≠q)∧q≠0∧q≠a∧q≠b:=by
 have h:∀n,∃M,∀k,k<n→c k≤M:=by
  intro n
  induction n with
  |zero=>exact⟨0,fun k h=>absurd h (by omega)⟩
  | succ n ih =>
    obtain⟨M,h⟩:=ih
    refine⟨M+c n,fun k hk=>?_⟩
    by_cases e:k=n
    · subst e;omega
    · have:=h k (by omega);omega
 obtain⟨M,h⟩:=h w.heap.size
 refine⟨M+a+b+1,fun k e=>?_,by omega,by omega,by omega⟩
 by_cases hk:k<w.heap.size
 · have:=h k hk;omega
 · have:=hc k (by omega);omega
theorem zbq {x:KV} {l:List KV} (hs:Sorted l):(putL x l).length=if getL x.1 l=none then l.length+1 else l.length:=by
 have:=zam (x:=x) hs
 split at this
 · obtain⟨h,e,g⟩:=this
   rw[e,if_neg g];simp
 · obtain⟨h,e,g⟩:=this
   rw[e,if_pos g];simp;omega
theorem zbr {x:KV}:∀{l:List KV} {y:KV},klt y x→(∀z∈l,klt y z)→∀z∈putL x l,klt y z
 |[],y,h,_,z,hz=>by simp[putL] at hz;subst hz;exact h
 | a :: l, y, h, hl, z, hz => by
   unfold putL at hz
   split at hz
   · rcases List.mem_cons.1 hz with rfl|hz
     · exact h
     · exact hl z hz
   · split at hz
     · rcases List.mem_cons.1 hz with rfl|hz
       · exact h
       · exact hl z (List.mem_cons_of_mem _ hz)
     · rcases List.mem_cons.1 hz with rfl|hz
       · exact hl z (by simp)
       · exact zbr h (fun z hz=>hl z (List.mem_cons_of_mem _ hz)) z hz
theorem zbs {x:KV}:∀{l:List KV},Sorted l→Sorted (putL x l)
 |[],_=>by simp[putL,Sorted]
 | y :: l, h => by
   have h1:=List.pairwise_cons.1 h
   unfold putL
   split
   · rename_i h2
     exact List.pairwise_cons.2 ⟨fun z hz=>by
      rcases List.mem_cons.1 hz with rfl|hz
      · exact h2
      · exact z6h h2 (h1.1 z hz),h⟩
   · split
     · rename_i h2
       have e:=z6f h2
       refine List.pairwise_cons.2 ⟨fun z hz=>?_,h1.2⟩
       have:=h1.1 z hz
       unfold klt at this⊢
       rw[e];exact this
     · rename_i h2 h3
       refine List.pairwise_cons.2 ⟨zbr ?_ h1.1,zbs h1.2⟩
       have:=z6g x.1 y.1
       unfold klt;omega
def TPutRes (c:Nat→Nat) (r rn:Nat) (w:World) (tp st lm km:Nat) (S:SSt) (D:DSt) (o:Root) (lr ov:Value) (ls ld:Int) (gone:List Nat) (x:KV) (e:Ending) (w':World):Prop:=
 ∃ o' gone', rootL o' = putL x (rootL o) ∧ RootSh o' ∧ RAcc w.heap.size o o' gone gone' ∧
   ((e = .returned (.int .i64 21) ∧ S.pages - S.state.length < rootDirty o' ∧ Fr C0 w w') ∨
    (e = .returned (.int .i64 0) ∧ rootDirty o' ≤ S.pages - S.state.length ∧ Fr (fun b => c b = r) w w' ∧ ∃ gv' rv' c', Ag w.heap.size c c' ∧ Cl w' c' ∧ Hd c' r w' tp st S D ∧
     w'.heap[tp]?=some (.cells (TreeCells st rv' ((rootL o').length:Int) (rootD o':Int) lr ls ld lm gv' ov km) 139 (0,0))∧w'.ownsRow 0 3 1 gv' gone'.length (gone'.map natV)∧(∀b,gv'.ownBlock=some b→c' b=r)∧RootAt c' rn w' (pgs D) D.blocks False o' rv'))
theorem zbt {n0 n:Nat} (x:KV) (gone:List Nat) (hn:n0≤n):RAcc n0 none (some (1,.node (.mem n 0 0) [x] [])) gone (gone++[]):=by
 refine⟨fun id=>by simp[rcnt,cnt,Nm.cnt,sumN],fun b j=>?_,by simp[rootDirty,dirtyN,sumN,rootD],by simp⟩
 simp only[rcnt]
 rw[zb5]
 simp only[List.map_nil,sumN,List.length_nil]
 split<;>split<;>split<;>omega
theorem zbu {n0 n1 d:Nat} {t ta:T} {gone gone2:List Nat} (h:Acc n1 d t [ta] [] gone2) (h01:n0≤n1) (hz:∀b j,n0≤b→cnt d (.cl b j) t=0) (hl:gone2.length≤d):RAcc n0 (some (d,t)) (some (d,ta)) gone (gone++gone2):=by
 refine⟨fun id=>?_,fun b j=>?_,?_,by simp[rootD];omega⟩
 · have h1:=h.pg id
   simp only[List.map_cons,List.map_nil,sumN,Nat.add_zero,List.count_nil] at h1
   simp only[rcnt,List.count_append];omega
 · have h1:=h.cl b j
   have h2:=hz b j
   simp only[List.map_cons,List.map_nil,sumN,Nat.add_zero] at h1
   simp only[rcnt]
   split at h1<;>split<;>first|omega|(have:=h2 (by omega);omega)
 · have h1:=h.dirty
   simp only[List.map_cons,List.map_nil,sumN,Nat.add_zero] at h1
   simp only[rootDirty,rootD];omega
theorem zbv {n0 n1 n2 d n g:Nat} {t ta tb:T} {x:KV} {gone gone2:List Nat} (h:Acc n1 d t [ta,tb] [] gone2) (h01:n0≤n1) (h12:n1≤n2) (hn:n2≤n) (hg:n2≤g) (hng:n≠g) (hz:∀b j,n0≤b→cnt d (.cl b j) t=0) (hz2:∀b j,n2≤b→cnt d (.cl b j) ta=0∧cnt d (.cl b j) tb=0) (hl:gone2.length≤d):RAcc n0 (some (d,t)) (some (d+1,.node (.mem n g 0) [x] [ta,tb])) gone (gone++gone2):=by
 refine⟨fun id=>?_,fun b j=>?_,?_,by simp[rootD];omega⟩
 · have h1:=h.pg id
   simp only[List.map_cons,List.map_nil,sumN,Nat.add_zero,List.count_nil] at h1
   simp only[rcnt,List.count_append]
   rw[zba]
   simp only[List.map_cons,List.map_nil,sumN,Nat.add_zero];omega
 · have h1:=h.cl b j
   have h2:=hz b j
   have h3:=hz2 b j
   simp only[List.map_cons,List.map_nil,sumN,Nat.add_zero] at h1
   simp only[rcnt]
   rw[zb5]
   simp only[List.map_cons,List.map_nil,sumN,Nat.add_zero,List.length_cons,List.length_nil]
   split at h1<;>split<;>split<;>split<;>first|omega|(have:=h2 (by omega);omega)|(have:=h3 (by omega);omega)|(have:=h2 (by omega);have:=h3 (by omega);omega)
 · have h1:=h.dirty
   simp only[List.map_cons,List.map_nil,sumN,Nat.add_zero] at h1
   simp only[rootDirty,rootD,dirtyN,List.map_cons,List.map_nil,sumN,Nat.add_zero];omega
theorem zbw {x:KV} (n:Nat) (hx:KVok x):Shape 1 1 (.node (.mem n 0 0) [x] []):=⟨Nat.le_refl _,by simp,fun y hy=>by simp at hy;subst hy;exact hx,by simp⟩
theorem zbx {d n g:Nat} {ta tb:T} {x:KV} (hx:KVok x) (ha:Shape d 2 ta) (hb:Shape d 2 tb):Shape (d+1) 1 (.node (.mem n g 0) [x] [ta,tb]):=by
 have hd:¬d=0:=by rintro rfl;exact ha.elim
 refine⟨Nat.le_refl _,by simp,fun y hy=>by simp at hy;subst hy;exact hx,?_⟩
 rw[if_neg hd]
 refine⟨rfl,fun k hk=>?_⟩
 simp at hk
 rcases hk with rfl|rfl
 · exact ha
 · exact hb
theorem zby {d n g:Nat} {ta tb:T} {x:KV} (hd:¬d=0):flat (d+1) (.node (.mem n g 0) [x] [ta,tb])=flat d ta++x::flat d tb:=by
 show(if d=0 then _ else _)=_
 rw[if_neg hd]
 simp[inter,interT]
theorem zbz:∀{d:Nat} {m:Nat} {t:T},1≤m→Shape d m t→dirtyN d t≤(flat d t).length
 |0,_,_,_,_=>by simp[dirtyN]
 | d + 1, m, .node nm l ks, hm, h => by
   obtain⟨h1,h2,h3,h4⟩:=h
   cases nm with
   |page id=>simp[dirtyN]
   | mem n g o =>
     by_cases hd:d=0
     · subst hd
       rw[if_pos rfl] at h4
       subst h4
       show 1+_≤(if 0=0 then l else _).length
       rw[if_pos rfl];simp[sumN];omega
     · rw[if_neg hd] at h4
       show 1+_≤(if d=0 then l else _).length
       rw[if_neg hd]
       have key:∀(l:List KV) (ks:List T),(∀k∈ks,Shape d 2 k)→ks.length=l.length→l.length+sumN (ks.map (dirtyN d))≤(interT l (ks.map (flat d))).length:=by
        intro l
        induction l with
        |nil=>intro ks _ e;cases ks with|nil=>simp[interT,sumN]|cons=>simp at e
        | cons y l ih =>
          intro ks hk e
          cases ks with
          |nil=>simp at e
          | cons k ks =>
            have:=ih ks (fun a ha=>hk a (List.mem_cons_of_mem _ ha)) (by simpa using e)
            have h5:=zbz (by omega) (hk k (by simp))
            simp[interT,sumN];omega
       cases ks with
       |nil=>simp at h4
       | cons k ks =>
         have:=key l ks (fun a ha=>h4.2 a (List.mem_cons_of_mem _ ha)) (by simpa using h4.1)
         have h5:=zbz (by omega) (h4.2 k (by simp))
         simp[inter,sumN];omega
theorem zc0 {o:Root} (h:RootSh o):rootDirty o≤(rootL o).length:=by
 cases o with
 |none=>exact Nat.zero_le _
 |some p=>exact zbz (Nat.le_refl _) h
end
end Go.Proofs.YtidalepbkljkpaaGreat
namespace Go.H
open Go.RowKit
section
theorem zc1 {α:Type} (k:Int) (v:α):∀L:List (Int×α),aget k (aset k v L)=some v
 |[]=>by simp[aset,aget]
 | p :: L => by
   by_cases h:p.1=k
   · simp[aset,aget,h]
   · simp only[aset,aget,if_neg h];exact zc1 k v L
theorem zc2 {α:Type} {k j:Int} (h:j≠k) (v:α):∀L:List (Int×α),aget j (aset k v L)=aget j L
 |[]=>by simp[aset,aget,Ne.symm h]
 | p :: L => by
   by_cases hp:p.1=k
   · simp[aset,aget,hp,Ne.symm h]
   · simp only[aset,aget,if_neg hp];rw[zc2 h v L]
theorem zc3 {b:Bs} (h:b.length=8192):padB b=b:=by simp[padB,h]
structure DOk (D:DSt):Prop where
 good:∀k,(D.good k).length=8192
 opn:∀p∈D.opn,p.2.length=8192
theorem zc4 {s:DSt} {k j:Nat} {b:Bs} (hg:(s.good k).length=8192) (hb:b.length=8192):(s.lay k b 8192).good j=if j=k then b else s.good j:=by
 unfold DSt.lay DSt.good
 by_cases h:j=k
 · subst h
   rw[if_pos rfl]
   simp only[zc1,Option.getD_some]
   have hd:((padB ((aget (j:Int) s.kept).getD [])).drop 8192)=[]:=List.drop_of_length_le (by unfold DSt.good at hg;omega)
   rw[hd,List.append_nil,List.take_of_length_le (by omega),zc3 hb]
 · rw[if_neg h]
   have h2:(j:Int)≠(k:Int):=by omega
   simp only[zc2 h2]
theorem zc5 (j:Nat):∀(l:List (Nat×Bs)) (s:DSt),(∀k,(s.good k).length=8192)→(∀p∈l,p.2.length=8192)→(∀k,((layAll s l).good k).length=8192)∧(layAll s l).good j=(match lastOpen j l with|some b=>padB b|none=>s.good j)
 |[],s,h,_=>⟨h,rfl⟩
 | p :: l, s, h, hl => by
   have hp:=hl p (by simp)
   have h2:∀k,((s.lay p.1 p.2 8192).good k).length=8192:=fun k=>by
    rw[zc4 (h _) hp]
    split
    · exact hp
    · exact h k
   have ih:=zc5 j l (s.lay p.1 p.2 8192) h2 (fun q hq=>hl q (List.mem_cons_of_mem _ hq))
   refine⟨ih.1,?_⟩
   show(layAll (s.lay p.1 p.2 8192) l).good j=_
   rw[ih.2]
   simp only[lastOpen]
   cases lastOpen j l with
   |some b=>rfl
   | none =>
     simp only[]
     rw[zc4 (h _) hp]
     by_cases e:p.1=j
     · rw[if_pos e.symm,if_pos e]
       exact(zc3 hp).symm
     · rw[if_neg (fun h=>e h.symm),if_neg e]
theorem zc6 (D:DSt) (j:Nat):D.flush.good j=(layAll D D.opn).good j:=rfl
theorem zc7 {D:DSt} (h:DOk D) (j:Nat):D.flush.read j=D.read j:=by
 have:=(zc5 j D.opn D h.good h.opn).2
 unfold DSt.read
 rw[show D.flush.opn=[] from rfl]
 simp only[lastOpen]
 rw[zc6,this]
 cases lastOpen j D.opn<;>rfl
theorem DOk.flush {D:DSt} (h:DOk D):DOk D.flush:=⟨(zc5 0 D.opn D h.good h.opn).1,fun p hp=>by simp[DSt.flush] at hp⟩
theorem DOk.write {D:DSt} {k:Nat} {b:Bs} (h:DOk D) (hb:b.length≤8192):DOk (D.write k b):=⟨h.good,fun p hp=>by
 simp only[DSt.write,List.mem_append,List.mem_singleton] at hp
 rcases hp with hp|rfl
 · exact h.opn p hp
 · exact z27 hb⟩
theorem zc8 {D:DSt} {k j:Nat} {b:Bs} (hb:b.length≤8192):(D.write k b).read j=if j=k then padB b else D.read j:=by
 unfold DSt.read DSt.write
 simp only[z2b]
 by_cases h:k=j
 · rw[if_pos h,if_pos h.symm]
   simp only[]
   exact zc3 (z27 hb)
 · rw[if_neg h,if_neg (fun e=>h e.symm)]
   rfl
end
end Go.H
namespace Go.Proofs.YtidalepbkljkpaaGreat
open Go.RowKit Go.H
set_option maxHeartbeats 2000000
set_option maxRecDepth 100000
section
structure LFr (c:Nat→Nat) (r rn lm:Nat) (ns:List Nat) (w w':World) (d:Nat) (t:T):Prop where
 os:w'.os=w.os
 output:w'.output=w.output
 size:w.heap.size≤w'.heap.size
 blk:∀k,k<w.heap.size→(c k=r→k∈ns)→c k≠rn→k≠lm→w'.heap[k]?=w.heap[k]?
 cell:∀b o u,c b=rn→w.cell? ⟨b,o,none⟩=some u→(cnt d (.cl b o) t=0∨∃A n k,u=.slice A n k)→w'.cell? ⟨b,o,none⟩=some u
 plain:∀b,c b=rn→Plain w b→Plain w' b
theorem LFr.refl (c:Nat→Nat) (r rn lm:Nat) (ns:List Nat) (w:World) (d:Nat) (t:T):LFr c r rn lm ns w w d t:=⟨rfl,rfl,Nat.le_refl _,fun _ _ _ _ _=>rfl,fun _ _ _ _ h _=>h,fun _ _ h=>h⟩
theorem LFr.ofFr {c:Nat→Nat} {r rn lm:Nat} {ns:List Nat} {w w':World} {d:Nat} {t:T} (h:Fr (fun b=>(c b=r∧b∉ns)∨b=lm) w w') (hr:r≠rn) (hm:c lm≠rn):LFr c r rn lm ns w w' d t:=
 ⟨h.os,h.output,h.size,fun k hk h1 h2 h3=>h.block k hk (fun e=>e.elim (fun e=>e.2 (h1 e.1)) h3),fun b o u hb hu _=>h.cell hu (fun e=>e.elim (fun e=>hr (e.1.symm.trans hb)) (fun e=>hm (by rw[←e];exact hb))),fun b hb hp=>hp.fr h (fun e=>e.elim (fun e=>hr (e.1.symm.trans hb)) (fun e=>hm (by rw[←e];exact hb)))⟩
theorem LFr.trans {c c1:Nat→Nat} {r rn lm:Nat} {ns:List Nat} {w w1 w2:World} {d d1 d2:Nat} {t t1 t2:T} (h:LFr c r rn lm ns w w1 d1 t1) (k:LFr c1 r rn lm ns w1 w2 d2 t2) (ha:Ag w.heap.size c c1) (h1:∀b o,cnt d (.cl b o) t=0→cnt d1 (.cl b o) t1=0) (h2:∀b o,cnt d (.cl b o) t=0→cnt d2 (.cl b o) t2=0):LFr c r rn lm ns w w2 d t:=by
 refine⟨k.os.trans h.os,k.output.trans h.output,Nat.le_trans h.size k.size,fun b hb e1 e2 e3=>?_,fun b o u hb hu hc=>?_,fun b hb hp=>?_⟩
 · rw[k.blk b (Nat.lt_of_lt_of_le hb h.size) (by rw[ha b hb];exact e1) (by rw[ha b hb];exact e2) e3]
   exact h.blk b hb e1 e2 e3
 · have hl:=World.block_lt_of_cell? w _ hu
   exact k.cell b o u ((ha b hl).trans hb) (h.cell b o u hb hu (hc.imp (h1 b o) id)) (hc.imp (h2 b o) id)
 · obtain⟨cs,e,hp2⟩:=hp
   exact k.plain b ((ha b (Array.getElem?_eq_some_iff.1 hp2).1).trans hb) (h.plain b hb ⟨cs,e,hp2⟩)
theorem LFr.ag {c c':Nat→Nat} {r rn lm:Nat} {ns:List Nat} {w w':World} {d:Nat} {t:T} (h:LFr c r rn lm ns w w' d t) (ha:Ag w.heap.size c c'):LFr c' r rn lm ns w w' d t:=
 ⟨h.os, h.output, h.size, fun k hk e1 e2 e3 => h.blk k hk (fun e => e1 ((ha k hk).trans e)) (fun e => e2 ((ha k hk).trans e)) e3, fun b o u hb hu hc => h.cell b o u ((ha b (World.block_lt_of_cell? w _ hu)).symm.trans hb) hu hc, fun b hb hp => by
  obtain⟨cs,e,hp2⟩:=hp
  exact h.plain b ((ha b (Array.getElem?_eq_some_iff.1 hp2).1).symm.trans hb) ⟨cs,e,hp2⟩⟩
theorem LFr.fr0 {c:Nat→Nat} {r rn lm:Nat} {ns:List Nat} {w w':World} {d:Nat} {t:T} (h:LFr c r rn lm ns w w' d t) (hr:r≠0) (hn:rn≠0) (hm:c lm≠0):Fr (fun b=>c b≠0) w w':=
 ⟨h.os, h.output, h.size, fun k hk e => by
  have e0:c k=0:=Decidable.of_not_not e
  exact h.blk k hk (fun e=>absurd (e.symm.trans e0) hr) (fun e=>hn (e.symm.trans e0)) (fun e=>hm (by rw[←e];exact e0))⟩
theorem NodeAt.lfr {c:Nat→Nat} {r rn lm:Nat} {ns:List Nat} {w w':World} {d:Nat} {t:T} {n g o id:Nat} {l:List KV} {kvs:List Value} {v:Value} (hr:r≠0) (hn0:rn≠0) (hm:c lm≠0) (h:NodeAt (Dt c) w n g o id l kvs v) (hf:LFr c r rn lm ns w w' d t) (hn:c n=rn) (hg:kvs≠[]→c g=rn) (z0:cnt d (.cl n 0) t=0) (zk:∀i,i<kvs.length→cnt d (.cl g (o+i)) t=0):NodeAt (fun b=>c b=0∧b<w.heap.size) w' n g o id l kvs v:=by
 obtain⟨lv,h0,h1,h2,h3⟩:=h
 have h2':=h2
 obtain⟨A,cc,rfl,_⟩:=h2'
 refine⟨_,hf.cell _ _ _ hn h0 (.inl z0),hf.cell _ _ _ hn h1 (.inr ⟨_,_,_,rfl⟩),(h2.mono (F':=fun b=>c b=0∧b<w.heap.size) (fun b h hl=>⟨h,hl⟩)).fr (hf.fr0 hr hn0 hm) (fun b hb k=>k hb.1),?_⟩
 rcases h3 with h3|⟨a,b,e,e1,e2,e3,e4⟩
 · exact .inl h3
 · exact .inr ⟨a,b,e,hf.cell _ _ _ hn e1 (.inr ⟨_,_,_,rfl⟩),e2,e3,fun i u hu=>hf.cell _ _ _ (hg a) (e4 i u hu) (.inl (zk i (by
    by_cases hi:i<kvs.length
    · exact hi
    · rw[List.getElem?_eq_none (by omega)] at hu;cases hu)))⟩
theorem Rep.lfr {c:Nat→Nat} {r rn lm:Nat} {ns:List Nat} {w w':World} {d1:Nat} {t1:T} {pg:Nat→Option Bs} {N:Nat} {X:Prop} (hr:r≠0) (hn0:rn≠0) (hm:c lm≠0) (hf:LFr c r rn lm ns w w' d1 t1):∀{d:Nat} {t:T} {v:Value},(∀b o,0<cnt d (.cl b o) t→cnt d1 (.cl b o) t1=0)→Rep c rn w pg N X d t v→Rep c rn w' pg N X d t v
 |0,_,_,_,h=>h.elim
 | d + 1, .node (.page id) l ks, v, hp, h => by
   obtain⟨a,b,e,f,k⟩:=h
   refine⟨a,b,e,f,fun x hx=>⟨(k x hx).1,Rep.lfr hr hn0 hm hf (fun b o hi=>hp b o ?_) (k x hx).2⟩⟩
   have:=z75 (List.mem_map_of_mem (f:=cnt d (.cl b o)) hx)
   simp only[cnt];omega
 | d + 1, .node (.mem n g o) l ks, v, hp, h => by
   obtain⟨kvs,a,b,e,f,p1,p2⟩:=h
   have hl:=All2.length f
   refine⟨kvs,(a.lfr hr hn0 hm hf b e (hp n 0 (by rw[zb5];simp;omega)) (fun i hi=>hp g (o+i) (by rw[zb5,if_pos (show g=g∧o≤o+i∧o+i<o+ks.length from⟨rfl,by omega,by omega⟩)];omega))).mono (fun b h _=>h.1),b,e,f.imp_mem fun x y hx hr2=>Rep.lfr hr hn0 hm hf (fun b2 o2 hi=>hp b2 o2 ?_) hr2,hf.plain _ b p1,fun hk=>hf.plain _ (e hk) (p2 hk)⟩
   have:=z75 (List.mem_map_of_mem (f:=cnt d (.cl b2 o2)) hx)
   rw[zb5];omega
theorem Rep.pageW {c c':Nat→Nat} {rn rn':Nat} {w w':World} {pg:Nat→Option Bs} {N:Nat} {X:Prop}:∀{d:Nat} {t:T} {v:Value},t.isPage→Rep c rn w pg N X d t v→Rep c' rn' w' pg N X d t v
 |0,_,_,_,h=>h.elim
 | d + 1, .node (.page id) l ks, v, _, h => by
   obtain⟨a,b,e,f,k⟩:=h
   exact⟨a,b,e,f,fun x hx=>⟨(k x hx).1,Rep.pageW (k x hx).1 (k x hx).2⟩⟩
 |d+1,.node (.mem n g o) l ks,v,hp,h=>hp.elim
theorem zc9 {d:Nat} {t:T} (h:t.isPage):dirtyN d t=0:=by
 obtain⟨nm,l,ks⟩:=t
 cases nm with
 |page id=>cases d<;>rfl
 |mem n g o=>exact h.elim
theorem LFr.set {c:Nat→Nat} {r rn lm:Nat} {ns:List Nat} {w:World} {d n i:Nat} {t:T} {x:Value} (u:Value) (hn:c n=rn) (h0:0<cnt d (.cl n i) t) (hx:w.cell? ⟨n,i,none⟩=some x) (hx2:∀A k m,x≠.slice A k m):LFr c r rn lm ns w (w.setCell ⟨n,i,none⟩ u) d t:=by
 refine⟨rfl,rfl,by simp[World.setCell],fun k hk e1 e2 e3=>?_,fun b o v hb hv hc=>?_,fun b hb hp=>hp.set⟩
 · rw[Below.heap_setCell _ _ _ _ (fun e=>e2 (by rw[e];exact hn))]
 · have hne:(⟨n,i,none⟩:Addr)≠⟨b,o,none⟩:=by
    intro e
    injection e with e1 e2 _
    subst e1;subst e2
    rcases hc with hc|⟨A,k,m,hc⟩
    · omega
    · rw[hx] at hv;injection hv with hv;exact hx2 A k m (hv.trans hc)
   rw[World.cell?_setCell_other (h:=hne)];exact hv
structure LayIn (c:Nat→Nat) (r rm:Nat) (w:World) (tp st lm:Nat) (ns:List Nat) (S:SSt) (D:DSt) (held live:List Nat):Prop where
 hd:Hd c r w tp st S D
 cl:Cl w c
 ap:Apart c r w ns
 tpn:tp∈ns
 tl:w.cell? ⟨tp,7,none⟩=some (.map (some lm))
 mp:MapIs w lm (vmap (ones live))
 ml:c lm=rm
 st:Held S.state held
 ok:DOk D
theorem Apart.fr {C:Nat→Prop} {c:Nat→Nat} {r:Nat} {w w':World} {ns:List Nat} (h:Apart c r w ns) (hf:Fr C w w') (hC:∀b∈ns,¬C b):Apart c r w' ns:=fun b hb=>by
 obtain⟨a,cs,e,f,k,k2⟩:=h b hb
 exact⟨a,cs,e,f,hf.blk k (hC b hb),k2⟩
theorem Apart.ag {c c':Nat→Nat} {r:Nat} {w:World} {ns:List Nat} (h:Apart c r w ns) (ha:Ag w.heap.size c c'):Apart c' r w ns:=fun b hb=>by
 have hl:=h.lt b hb
 obtain⟨a,k⟩:=h b hb
 exact⟨(ha b hl).trans a,k⟩
theorem LayIn.frN {c:Nat→Nat} {r rn rm:Nat} {w w':World} {tp st lm:Nat} {ns:List Nat} {S:SSt} {D:DSt} {held live:List Nat} (h:LayIn c r rm w tp st lm ns S D held live) (hf:Fr (fun b=>c b=rn) w w') (hr:rn≠r) (h0:rn≠0) (hm:rn≠rm):LayIn c r rm w' tp st lm ns S D held live:=
 ⟨h.hd.fr hf (fun b e k=>hr (e.symm.trans k)) (fun b e k=>h0 (e.symm.trans k)),h.cl.mono hf.size,h.ap.fr hf (fun b hb e=>hr (e.symm.trans (h.ap b hb).1)),h.tpn,hf.cell h.tl (fun e=>hr (e.symm.trans (h.ap tp h.tpn).1)),h.mp.fr hf (fun e=>hm (e.symm.trans h.ml)),h.ml,h.st,h.ok⟩
structure Laid2 (S:SSt) (D:DSt) (held new:List Nat) (S':SSt) (D':DSt):Prop where
 st:S'={ S with state:=S.state++ones new }
 opn:D'.opn.length=D.opn.length+new.length
 read:∀j,j∉new→D'.read j=D.read j
 blocks:D'.blocks=D.blocks
 nw:∀x∈new,x∉held∧2≤x∧x<S.pages+2
 nd:new.Nodup
 lo:∀j,j∉new→lastOpen j D'.opn=lastOpen j D.opn
 af:D.after<1→D'.after<1
theorem Laid2.nil {S:SSt} {D:DSt} {held:List Nat}:Laid2 S D held [] S D:=⟨by cases S;simp[marks],rfl,fun _ _=>rfl,rfl,by simp,by simp,fun _ _=>rfl,fun h=>h⟩
theorem Laid2.trans {S S1 S2:SSt} {D D1 D2:DSt} {held n1 n2:List Nat} (h:Laid2 S D held n1 S1 D1) (k:Laid2 S1 D1 (held++n1) n2 S2 D2):Laid2 S D held (n1++n2) S2 D2:=by
 refine⟨by rw[k.st,h.st];simp only[List.append_assoc,z92],by rw[k.opn,h.opn,List.length_append];omega,fun j hj=>?_,k.blocks.trans h.blocks,fun x hx=>?_,?_,fun j hj=>?_,fun h0=>k.af (h.af h0)⟩
 · rw[List.mem_append] at hj
   rw[k.read j (fun e=>hj (.inr e)),h.read j (fun e=>hj (.inl e))]
 · rcases List.mem_append.1 hx with hx|hx
   · exact h.nw x hx
   · have:=k.nw x hx
     rw[h.st] at this
     exact⟨fun e=>this.1 (List.mem_append_left _ e),this.2⟩
 · refine List.nodup_append.2 ⟨h.nd,k.nd,fun a ha b hb e=>?_⟩
   subst e
   exact(k.nw a hb).1 (List.mem_append_right _ ha)
 · rw[List.mem_append] at hj
   rw[k.lo j (fun e=>hj (.inr e)),h.lo j (fun e=>hj (.inl e))]
theorem zca {D:DSt} {k j:Nat} {l:Bs} (hl:l.length≤8186):pgs (D.write k (pageB l)) j=if j=k then some l else pgs D j:=by
 unfold pgs
 rw[zc8 (by rw[z4e hl];omega)]
 split
 · rw[zc3 (z4e hl),z4o hl]
 · rfl
def LayOk (c:Nat→Nat) (r rn rm:Nat) (w:World) (tp st lm:Nat) (ns:List Nat) (S:SSt) (D:DSt) (held live:List Nat) (d m:Nat) (t:T) (v:Value) (e:Ending) (w':World):Prop:=
 ∃ c' t' new S' D', e = .returned (.int .i64 0) ∧ Ag w.heap.size c c' ∧ LayIn c' r rm w' tp st lm ns S' D' (held ++ new) (live ++ new) ∧ Laid2 S D held new S' D' ∧ new.length = dirtyN d t ∧
   t'.isPage∧Num w' v t'.id∧Rep c' rn w' (pgs D') D.blocks False d t' (wPage t'.id)∧Shape d m t'∧flat d t'=flat d t∧(∀id,cnt d (.pg id) t'=cnt d (.pg id) t+new.count id)∧LFr c r rn lm ns w w' d t
def LayQ (D:DSt) (held:List Nat) (D':DSt):Prop:=∀j,(j<2∨j∈held)→lastOpen j D.opn=none→D'.read j=D.read j
def LayNo (c:Nat→Nat) (r rn:Nat) (w:World) (lm:Nat) (ns:List Nat) (S:SSt) (D:DSt) (held:List Nat) (e:Ending) (w':World):Prop:=
 e=.returned (.int .i64 20)∧Fr (fun b=>(c b=r∧b∉ns)∨c b=rn∨b=lm) w w'∧Fell c r w w' S.dk D (LayQ D held)
def LayRes (c:Nat→Nat) (r rn rm:Nat) (w:World) (tp st lm:Nat) (ns:List Nat) (S:SSt) (D:DSt) (held live:List Nat) (d m:Nat) (t:T) (v:Value) (e:Ending) (w':World):Prop:=
 LayOk c r rn rm w tp st lm ns S D held live d m t v e w'∨LayNo c r rn w lm ns S D held e w'
theorem zcb {j:Nat}:∀{l:List (Nat×Bs)},lastOpen j l=none→∀p∈l,p.1≠j
 |[],_,p,hp=>by simp at hp
 | q :: l, h, p, hp => by
   simp only[lastOpen] at h
   cases hl:lastOpen j l with
   |some b=>rw[hl] at h;cases h
   | none =>
     rw[hl] at h
     simp only[] at h
     rcases List.mem_cons.1 hp with rfl|hp
     · intro e;rw[if_pos e] at h;cases h
     · exact zcb hl p hp
theorem zcc {s:DSt} {f:Nat→Option Nat} {l:List (Nat×Bs)} {j:Nat} (h:∀p∈l,p.1≠j):∀n,(layUp s f l n).good j=s.good j
 |0=>rfl
 | n + 1 => by
   have ih:=zcc (s:=s) (f:=f) h n
   simp only[layUp]
   split
   · rename_i m p _ hp
     have h1:=h p (List.mem_of_getElem? hp)
     have h2:(j:Int)≠(p.1:Int):=by omega
     rw[←ih]
     unfold DSt.lay DSt.good
     simp only[zc2 h2]
   · exact ih
theorem zcd {D:DSt} {f:Nat→Option Nat} (j:Nat):(cutF D f).read j=(layUp D f D.opn D.opn.length).good j:=rfl
theorem zce {D D':DSt} (h:CutQ D D') (held:List Nat):LayQ D held D':=fun j _ hl=>by
 obtain⟨f,_,rfl⟩:=h
 rw[zcd,zcc (zcb hl)]
 unfold DSt.read
 rw[hl]
theorem LFr.frx {c:Nat→Nat} {r rn lm:Nat} {ns:List Nat} {w w':World} {d:Nat} {t:T} (h:LFr c r rn lm ns w w' d t):Fr (fun b=>(c b=r∧b∉ns)∨c b=rn∨b=lm) w w':=
 ⟨h.os,h.output,h.size,fun k hk e=>h.blk k hk (fun e1=>Decidable.of_not_not fun e2=>e (.inl ⟨e1,e2⟩)) (fun e1=>e (.inr (.inl e1))) (fun e1=>e (.inr (.inr e1)))⟩
theorem LayNo.later {c c1:Nat→Nat} {r rn lm:Nat} {ns:List Nat} {w wr w':World} {S S1:SSt} {D D1:DSt} {held new:List Nat} {e:Ending} (h:LayNo c1 r rn wr lm ns S1 D1 (held++new) e w') (hf:Fr (fun b=>(c b=r∧b∉ns)∨c b=rn∨b=lm) w wr) (ha:Ag w.heap.size c c1) (la:Laid2 S D held new S1 D1):LayNo c r rn w lm ns S D held e w':=by
 obtain⟨h1,f,h2⟩:=h
 refine⟨h1,hf.trans f (fun b hb e=>by rw[ha b hb] at e;exact e),?_⟩
 have hdk:S1.dk=S.dk:=by rw[la.st]
 rw[hdk] at h2
 refine h2.later ha hf.size la.af la.blocks fun D' hq j hj hl=>?_
 have hn:j∉new:=fun e=>by
  have:=la.nw j e
  rcases hj with hj|hj
  · omega
  · exact this.1 hj
 rw[hq j (hj.imp id (fun h=>List.mem_append_left _ h)) (by rw[la.lo j hn];exact hl),la.read j hn]
theorem zcf {l:List KV} {ids:List Nat} (hl:l.length≤4) (h:∀x∈l,KVok x) (hi:ids.length≤5):(encB l ids).length≤8186:=by
 have h1:=z7c h
 have h2:=z7e ids
 have h3:=z1b l.length
 rw[z7f]
 simp only[List.length_append,List.length_cons]
 omega
theorem zcg {c c1:Nat→Nat} {r rn rm:Nat} {w w1 w3 w4:World} {tp st lm:Nat} {ns:List Nat} {S:SSt} {D:DSt} {held live:List Nat} {l:Bs} (hr:r≠0) (hm0:rm≠0) (hmr:rm≠r) (h:LayIn c r rm w tp st lm ns S D held live) (hlive:∀x∈live,x∈held) (hlt:held.length<S.pages) (hl:l.length≤8186)
 (f1:Fr C0 w w1) (ag:Ag w1.heap.size c c1) (cl:Cl w3 c1) (s3:StoreOk c1 r w3 st (S.set S.first 1) (D.tick.write S.first (pageB l))) (f3:Fr (fun b=>c b=r∧b∉ns) w1 w3) (m4:MapIs w4 lm (aset (S.first:Int) (.int .i64 1) (vmap (ones live)))) (f4:Fr (fun b=>b=lm) w3 w4) :
 LayIn c1 r rm w4 tp st lm ns (S.set S.first 1) (D.tick.write S.first (pageB l)) (held++[S.first]) (live++[S.first])∧Laid2 S D held [S.first] (S.set S.first 1) (D.tick.write S.first (pageB l))∧Fr (fun b=>(c b=r∧b∉ns)∨b=lm) w w4:=by
 obtain⟨bk9,hst9,-⟩:=h.st
 have hf:=z9b hst9 hlt
 have hadd:=h.st.add hf.2.2
 have hs1:=f1.size
 have hs3:=f3.size
 have hml:=h.mp.lt
 have hcm:c1 lm=rm:=(ag lm (by omega)).trans h.ml
 have hst:Held (S.set S.first 1).state (held++[S.first]):=by
  show Held (aset (S.first:Int) 1 S.state) _
  rw[hadd.1];exact hadd.2
 have ha:=h.hd.alive
 have htn:∀b∈ns,b≠lm:=fun b hb e=>hmr (by rw[←h.ml,←e];exact(h.ap b hb).1)
 have hag:Ag w.heap.size c c1:=fun b hb=>ag b (by omega)
 have f13:=(f1.mono (C2:=fun b=>c b=r∧b∉ns) (fun _ _ h=>h.elim)).trans f3 (fun _ _ h=>h)
 have hns:∀b∈ns,¬(c b=r∧b∉ns):=fun b hb e=>e.2 hb
 have htp:=h.tpn
 refine⟨⟨⟨f4.cell (f13.cell h.hd.cell (hns tp htp)) (htn tp htp),s3.fr f4 (fun b e=>by rw[e,hcm];exact hmr) (fun b e=>by rw[e,hcm];exact hm0),⟨ha.down,ha.life,ha.size,ha.small⟩,(hag _ (h.ap.lt tp htp)).trans h.hd.own⟩,cl.mono f4.size,((h.ap.ag hag).fr f13 hns).fr f4 htn,htp,f4.cell (f13.cell h.tl (hns tp htp)) (htn tp htp),?_,hcm,hst,(show DOk D.tick from⟨h.ok.good,h.ok.opn⟩).write (by rw[z4e hl];omega)⟩,⟨?_,?_,fun j hj=>?_,rfl,fun x hx=>?_,by simp,fun j hj=>?_,fun h=>z55 h⟩,?_⟩
 · rw[z4w,z91 (fun e=>hf.2.2 (hlive _ e))] at m4;exact m4
 · show SSt.mk _ _ _ _ _ _=_
   rw[hadd.1]
 · simp[DSt.write];rfl
 · rw[zc8 (by rw[z4e hl];omega),if_neg (by simpa using hj)]
   rfl
 · simp at hx;subst hx;exact⟨hf.2.2,hf.1,hf.2.1⟩
 · show lastOpen j (D.opn++[(S.first,padB (pageB l))])=lastOpen j D.opn
   rw[z2b,if_neg (fun e=>hj (by simp[←e]))]
 · exact(f13.mono (C2:=fun b=>(c b=r∧b∉ns)∨b=lm) (fun _ _ h=>.inl h)).trans f4 (fun b hb e=>.inr e)
end
end Go.Proofs.YtidalepbkljkpaaGreat
