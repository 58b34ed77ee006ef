import Derived.Test.YtidalepbkljkpaaGreatLocalSpaces29
set_option linter.all false
namespace Go.Proofs.YtidalepbkljkpaaGreat
open Go.RowKit Go.H
set_option maxHeartbeats 2000000
set_option maxRecDepth 100000
section
theorem zdm {D:DSt} (h:DOk D):DOk D.tick:=⟨h.good,h.opn⟩
theorem zdn {D:DSt} (h:DOk D):DOk D.tick.flush:=(zdm h).flush
theorem zdo {D:DSt} (h:DOk D) (j:Nat):D.tick.flush.read j=D.read j:=by rw[zc7 (zdm h)];rfl
theorem zdp {D:DSt} (h:DOk D) (n root:Nat):DOk (D.tick.flush.tick.write (n % 2) (headB n root)):=(zdm (zdn h)).write (by rw[z4k];omega)
theorem zdq {D:DSt} (h:DOk D) (n root j:Nat):(D.tick.flush.tick.write (n % 2) (headB n root)).read j=if j=n % 2 then padB (headB n root) else D.read j:=by
 rw[zc8 (by rw[z4k];omega)]
 split
 · rfl
 · exact zdo h j
theorem zdr {D:DSt} (h:DOk D) (n root j:Nat):(dcommit D n root).read j=if j=n % 2 then padB (headB n root) else D.read j:=by
 unfold dcommit
 rw[zdo (zdp h n root),zdq h]
theorem zds {D:DSt} (h:DOk D) (n root j:Nat) (hj:2≤j):(dcommit D n root).read j=D.read j:=by
 rw[zdr h,if_neg (by omega)]
theorem zdt {D:DSt} (h:DOk D) {n root:Nat}:(dcommit D n root).read (n % 2)=padB (headB n root):=by
 rw[zdr h,if_pos rfl]
theorem zdu {D:DSt} (h:DOk D) {n root j:Nat} (hj:j≠n % 2):(dcommit D n root).read j=D.read j:=by
 rw[zdr h,if_neg hj]
theorem zdv (D:DSt):D.tick.flush.blocks=D.blocks:=z5o _
theorem zdw (D:DSt) (n root:Nat):(dcommit D n root).blocks=D.blocks:=(z5o _).trans (zdv D)
theorem zdx {D:DSt} (h:DOk D) (n root:Nat):DOk (dcommit D n root):=zdn (zdp h n root)
theorem zdy {c:Nat→Nat} {rn:Nat} {w:World} {pg:Nat→Option Bs} {N:Nat} {X:Prop} {b j:Nat}:∀{d:Nat} {t:T} {v:Value},t.isPage→Rep c rn w pg N X d t v→cnt d (.cl b j) t=0
 |0,_,_,_,h=>h.elim
 | d + 1, .node (.page id) l ks, v, _, h => by
   obtain⟨_,_,_,_,k⟩:=h
   have:sumN (ks.map (cnt d (.cl b j)))=0:=zb2 fun a ha=>by
    obtain⟨x,hx,rfl⟩:=List.mem_map.1 ha
    exact zdy (k x hx).1 (k x hx).2
   simp only[cnt,Nm.cnt,this];rfl
 |d+1,.node (.mem n g o) l ks,v,hp,_=>hp.elim
structure RootLaid (c:Nat→Nat) (r rn rm:Nat) (w w1:World) (tp st lm:Nat) (ns:List Nat) (Z:TSt) (nr:Value) (c1:Nat→Nat) (o':Root) (new:List Nat) (S1:SSt) (D1:DSt) (R:Nat) (rv:Value):Prop where
 ag:Ag w.heap.size c c1
 inn:LayIn c1 r rm w1 tp st lm ns S1 D1 (Z.held++new) (Z.live++new)
 laid:Laid2 Z.S Z.D Z.held new S1 D1
 root:RootAt c1 rn w1 (pgs D1) Z.D.blocks False o' rv
 page:rootPage o'
 flat:rootL o'=rootL Z.now
 depth:rootD o'=rootD Z.now
 cnts:∀id,rcnt (.pg id) o'=rcnt (.pg id) Z.now+new.count id
 lfr:∃d t,LFr c r rn lm ns w w1 d t
 way:(nr=.nilIface∧R=0∧rv=.nilIface∧o'=none)∨((∃tx y,nr=.iface tx y)∧Num w1 nr R∧2≤R∧R<5002∧rv=wPage R∧0<rcnt (.pg R) o')
theorem zdz {c:Nat→Nat} {r rn rm:Nat} {w:World} {tp st lm km:Nat} {nr lr gv ov:Value} {Z:TSt} {k:Nat} {sn:List Value} (ho:Owners r rn rm) (h:TreeIn c r rn rm w tp st lm km nr lr gv ov Z k sn) :
 Calls Tryz.prog 149 #[.pointer (some ⟨tp,0,none⟩),nr] w fun e w1=>(e=.returned (.int .i64 0)∧∃c1 o' new S1 D1 R rv,RootLaid c r rn rm w w1 tp st lm (tp::ownL gv) Z nr c1 o' new S1 D1 R rv)∨LayNo c r rn w lm (tp::ownL gv) Z.S Z.D Z.held e w1:=by
 have hin:LayIn c r rm w tp st lm (tp::ownL gv) Z.S Z.D Z.held Z.live:=⟨h.hd,h.cl,zcw h.hd.own h.blk h.gr h.go,List.mem_cons_self,z2k h.blk 7 rfl,h.live,h.lmo,⟨Z.back,h.bk.st,fun x hx=>(h.bk.hl x).2 (.inr (.inr hx))⟩,h.bk.ok⟩
 have hnow:=h.now
 have hbk:=h.bk
 cases hz:Z.now with
 | none =>
   rw[hz] at hnow
   obtain rfl:=hnow
   refine zch.mono ?_
   rintro e w1 ⟨rfl,rfl⟩
   exact .inl ⟨rfl,c,none,[],Z.S,Z.D,0,.nilIface,⟨Ag.refl _ _,by simpa using hin,Laid2.nil,rfl,trivial,by rw[hz],by rw[hz],fun id=>by rw[hz];simp,⟨0,.node (.page 0) [] [],LFr.refl _ _ _ _ _ _ _ _⟩,.inl ⟨rfl,rfl,rfl,rfl⟩⟩⟩
 | some p =>
   obtain⟨d,t⟩:=p
   rw[hz] at hnow
   have hl:=hbk.slen
   have hro:=hbk.room
   have hst:Z.S.state.length=Z.held.length:=by rw[hbk.st,z98]
   have hdb:=zdk (o:=some (d,t)) hnow.2 (by have:=hbk.bn;rw[hz] at this;exact this)
   rw[hz] at hro
   have hro2:dirtyN d t≤Z.S.pages-Z.S.state.length:=hro
   have hsm:=h.hd.alive.small
   refine(zcq ho.r0 ho.n0 ho.m0 ho.nr ho.mr ho.nm d c w Z.S Z.D Z.held Z.live 1 t nr hin (fun x hx=>(hbk.hl x).2 (.inl hx)) hnow.1 hnow.2 (fun id hid=>?_) (fun b j=>by have:=hbk.bc b j;rw[hz] at this;exact this) (by omega) (by rw[hbk.opn];simp;omega)).mono ?_
   · have:=hbk.b1 id
     rw[hz] at this
     have h2:0<rcnt (.pg id) (some (d,t)):=hid
     split at this
     · exact(hbk.hl id).2 (.inl (by assumption))
     · omega
   rintro e w1 (⟨c1,t',new,S1,D1,rfl,ag1,in1,la1,hln,pg1,nu1,re1,sh1,fl1,cn1,lf1⟩|hno)
   case inr=>exact .inr hno
   refine .inl ?_
   have hid:2≤t'.id∧t'.id<Z.D.blocks∧0<cnt d (.pg t'.id) t':=by
    cases d with
    |zero=>exact re1.elim
    | succ d =>
      obtain⟨nm,l2,ks2⟩:=t'
      cases nm with
      |page id=>exact⟨re1.2.1,re1.2.2.1,by simp only[cnt,Nm.cnt,T.id,T.nm,if_true];omega⟩
      |mem=>exact pg1.elim
   have:=h.hd.alive.size
   refine⟨rfl,c1,some (d,t'),new,S1,D1,t'.id,wPage t'.id,ag1,in1,la1,⟨re1,sh1⟩,pg1,by rw[hz];exact fl1,by rw[hz];rfl,fun id=>by rw[hz];exact cn1 id,⟨d,t,lf1⟩,.inr ⟨hnow.1.iface,nu1,hid.1,by omega,rfl,hid.2.2⟩⟩
def TSt.commit (Z:TSt) (o':Root) (new:List Nat) (S1:SSt) (D1:DSt) (R:Nat) (back kept:List Nat):TSt:=
 { S:={ S1 with num:=S1.num+1,root:=R,state:=ones ((Z.held++new).filter fun k=>decide (k∉back)) },D:=dcommit D1 (S1.num+1) R,now:=o',last:=o',gone:=[],live:=(Z.live++new).filter fun k=>decide (k∉Z.gone),held:=(Z.held++new).filter fun k=>decide (k∉back),back:=[],kept:=kept,snaps:=Z.snaps }
structure Gone (Z:TSt) (gone back kept:List Nat):Prop where
 bk:∀x,x∈back↔x∈Z.back∨(x∈gone∧¬Wants Z.snaps x)
 kp:∀x,x∈kept↔x∈Z.kept∨(x∈gone∧Wants Z.snaps x)
 kn:kept.Nodup
theorem Gone.start {Z:TSt} (h:Books Z):Gone Z [] Z.back Z.kept:=⟨fun x=>by simp,fun x=>by simp,h.kp.kn⟩
theorem Gone.wants {Z:TSt} {g back kept:List Nat} {id:Nat} (h:Gone Z g back kept) (hw:Wants Z.snaps id):Gone Z (g++[id]) back (addK id kept):=by
 refine⟨fun x=>?_,fun x=>?_,?_⟩
 · rw[h.bk x,List.mem_append,List.mem_singleton]
   constructor
   · rintro(a|⟨a,b⟩)
     · exact .inl a
     · exact .inr ⟨.inl a,b⟩
   · rintro(a|⟨a|a,b⟩)
     · exact .inl a
     · exact .inr ⟨a,b⟩
     · exact absurd (a▸hw) b
 · have h1:x∈addK id kept↔x∈kept∨x=id:=by
    unfold addK
    split
    · exact⟨.inl,fun e=>e.elim (fun e=>e) (fun e=>e▸(by assumption))⟩
    · simp
   rw[h1,h.kp x,List.mem_append,List.mem_singleton]
   constructor
   · rintro((a|⟨a,b⟩)|a)
     · exact .inl a
     · exact .inr ⟨.inl a,b⟩
     · exact .inr ⟨.inr a,a▸hw⟩
   · rintro(a|⟨a|a,b⟩)
     · exact .inl (.inl a)
     · exact .inl (.inr ⟨a,b⟩)
     · exact .inr a
 · unfold addK
   split
   · exact h.kn
   · refine List.nodup_append.2 ⟨h.kn,by simp,fun a ha b hb e=>?_⟩
     simp at hb
     subst hb e
     contradiction
theorem Gone.free {Z:TSt} {g back kept:List Nat} {id:Nat} (h:Gone Z g back kept) (hw:¬Wants Z.snaps id) (hk:id∉Z.kept):Gone Z (g++[id]) (id::back) (kept.filter fun j=>decide (j≠id)):=by
 refine⟨fun x=>?_,fun x=>?_,h.kn.filter _⟩
 · rw[List.mem_cons,h.bk x,List.mem_append,List.mem_singleton]
   constructor
   · rintro(a|a|⟨a,b⟩)
     · exact .inr ⟨.inr a,a▸hw⟩
     · exact .inl a
     · exact .inr ⟨.inl a,b⟩
   · rintro(a|⟨a|a,b⟩)
     · exact .inr (.inl a)
     · exact .inr (.inr ⟨a,b⟩)
     · exact .inl a
 · rw[List.mem_filter,h.kp x,List.mem_append,List.mem_singleton,decide_eq_true_eq]
   constructor
   · rintro⟨a|⟨a,b⟩,c⟩
     · exact .inl a
     · exact .inr ⟨.inl a,b⟩
   · rintro(a|⟨a|a,b⟩)
     · exact⟨.inl a,fun e=>hk (e▸a)⟩
     · exact⟨.inr ⟨a,b⟩,fun e=>hw (e▸b)⟩
     · exact absurd (a▸b) hw
theorem ze0 {Z:TSt} {o':Root} {new back kept:List Nat} {S1:SSt} {D1:DSt} {R:Nat} {c1:Nat→Nat} {rn:Nat} {w1:World} {rv:Value} (h:Books Z) (hnum:Z.S.num<1000000) (la:Laid2 Z.S Z.D Z.held new S1 D1) (ok:DOk D1) (root:RootAt c1 rn w1 (pgs D1) Z.D.blocks False o' rv) (page:rootPage o') (flat:rootL o'=rootL Z.now) (cnts:∀id,rcnt (.pg id) o'=rcnt (.pg id) Z.now+new.count id) (hR:R=rootId o') (hR1:R≠1) (hR2:R<Z.D.blocks) (hB:Z.D.blocks≤5002) (hg:Gone Z Z.gone back kept):Books (Z.commit o' new S1 D1 R back kept):=by
 have hnh:∀x∈new,x∉Z.held:=fun x hx=>(la.nw x hx).1
 have hn:∀x∈new,x∉Z.live:=fun x hx e=>hnh x hx ((h.hl x).2 (.inl e))
 have hb:∀id,rcnt (.pg id) o'=if id∈(Z.commit o' new S1 D1 R back kept).live then 1 else 0:=fun id=>by
  show _=if id∈(Z.live++new).filter (fun k=>decide (k∉Z.gone)) then 1 else 0
  have h1:=cnts id
  have h2:=h.b1 id
  have h3:=h.gn
  have h4:new.count id=if id∈new then 1 else 0:=la.nd.count
  have h5:Z.gone.count id=if id∈Z.gone then 1 else 0:=h3.1.count
  have h6:=hn id
  have h7:=h3.2 id
  simp only[List.mem_filter,List.mem_append,decide_eq_true_eq]
  by_cases a1:id∈Z.live<;>by_cases a2:id∈new<;>by_cases a3:id∈Z.gone<;>simp only[a1,a2,a3,if_true,if_false,not_true,not_false_eq_true,or_true,true_or,or_self,and_true,and_false,true_and,false_and] at h2 h4 h5⊢<;>first|omega|exact absurd a1 (h6 a2)|exact absurd (h7 a3) a1
 have hnd:∀(l:List Nat) (p:Nat→Bool),l.Nodup→(∀x∈new,x∉l)→((l++new).filter p).Nodup:=fun l p hl hx=>(List.nodup_append.2 ⟨hl,la.nd,fun a ha b hb e=>hx b hb (e▸ha)⟩).filter _
 have hS:S1.pages=Z.S.pages∧S1.num=Z.S.num:=by rw[la.st];exact⟨rfl,rfl⟩
 have hgl:=h.gn.2
 have hhl:=h.hl
 have hlk:=h.kp.lk
 have hkb:=h.kp.kb
 have hmem:∀x,(x∈(Z.live++new).filter (fun k=>decide (k∉Z.gone))↔(x∈Z.live∨x∈new)∧x∉Z.gone)∧(x∈(Z.held++new).filter (fun k=>decide (k∉back))↔(x∈Z.held∨x∈new)∧x∉back):=fun x=>by
  simp only[List.mem_filter,List.mem_append,decide_eq_true_eq,and_self]
 refine⟨rfl,hnd _ _ h.hn hnh,hnd _ _ h.ln hn,fun x=>?_,fun x hx=>?_,fun id=>by rw[←hb id];rfl,hb,fun b j=>?_,page,?_,rfl,zdx ok _ _,by show Sorted (rootL o');rw[flat];exact h.sn,by show Sorted (rootL o');rw[flat];exact h.sn,by show S1.num+1≤_;omega,by show(rootL o').length≤_;rw[flat];exact h.bn,by show(rootL o').length≤_;rw[flat];exact h.bn,?_,?_⟩
 · show x∈(Z.held++new).filter _↔x∈(Z.live++new).filter _∨x∈kept∨x∈[]
   have q1:=hmem x
   have q2:=hg.bk x
   have q3:=hg.kp x
   have q4:=hhl x
   have q5:=hgl x
   have q6:=hlk x
   have q7:=hkb x
   have q8:=hnh x
   rw[q1.1,q1.2,q2,q3]
   simp only[List.not_mem_nil,or_false]
   grind
 · show 2≤x∧x<S1.pages+2
   have hx':x∈(Z.held++new).filter (fun k=>decide (k∉back)):=hx
   rw[hS.1]
   rcases List.mem_append.1 (List.mem_filter.1 hx').1 with h1|h1
   · exact h.hb x h1
   · exact(la.nw x h1).2
 · show rcnt (.cl b j) o'≤1
   cases o' with
   |none=>exact Nat.zero_le _
   |some p=>rw[show rcnt (.cl b j) (some p)=cnt p.1 (.cl b j) p.2 from rfl,zdy page root.1];omega
 · show rootDirty o'≤_
   cases o' with
   |none=>exact Nat.zero_le _
   |some p=>rw[show rootDirty (some p)=dirtyN p.1 p.2 from rfl,zc9 page];omega
 · show HeadsOk (dcommit D1 (S1.num+1) R).read (S1.num+1) (rootId o')
   rw[←hR,hS.2]
   refine zdf h.head hnum (zdt ok) ?_
   rw[zdu ok (by omega),la.read _ (fun e=>by have:=(la.nw _ e).2.1;omega)]
 · show KeptB ((Z.live++new).filter fun k=>decide (k∉Z.gone)) kept [] Z.snaps
   refine⟨fun x hx=>?_,by simp,hg.kn,fun s hs=>?_,fun x hx=>?_,h.kp.sd⟩
   · have q1:=(hmem x).1.1 hx
     have q3:=hg.kp x
     have q4:=hhl x
     have q6:=hlk x
     have q8:=hnh x
     refine⟨fun e=>?_,by simp⟩
     grind
   · obtain⟨s1,s2,s3,s4,s5,s6⟩:=h.kp.ok s hs
     refine⟨s1,fun x hx=>?_,s3,s4,s5,s6⟩
     have q0:=s2 x hx
     have q1:=(hmem x).1
     have q3:=hg.kp x
     have q9:Wants Z.snaps x:=⟨s,hs,hx⟩
     rw[q1,q3]
     grind
   · rcases(hg.kp x).1 hx with h1|h1
     · exact h.kp.kw x h1
     · exact h1.2
theorem ze1 {c:Nat→Nat} {r rn rm:Nat} {w w1 w2:World} {tp st lm km k:Nat} {nr lr gv ov:Value} {Z:TSt} {sn:List Value} {c1:Nat→Nat} {o':Root} {new:List Nat} {S1:SSt} {D1:DSt} {R:Nat} {rv:Value} {ns nd ls ld:Int} (ho:Owners r rn rm) (h:TreeIn c r rn rm w tp st lm km nr lr gv ov Z k sn) (L:RootLaid c r rn rm w w1 tp st lm (tp::ownL gv) Z nr c1 o' new S1 D1 R rv) (hb2:w2.heap[tp]?=some (.cells (TreeCells st rv ns nd lr ls ld lm gv ov km) 139 (0,0))) (f2:Fr (fun b=>b=tp) w1 w2) :
 RelIn c1 r rm w2 tp st lm km ov (tp::ownL gv) S1 D1 (Z.held++new) Z.back (Z.live++new) Z.kept Z.snaps sn∧w2.ownsRow 0 3 1 gv Z.gone.length (Z.gone.map natV)∧Fr (fun b=>c b=r∨c b=rn∨c b=rm) w w2:=by
 have f01:Fr (fun b=>(c b=r∧b∉tp::ownL gv)∨c b=rn∨b=lm) w w1:=by
  obtain⟨d,t,lf⟩:=L.lfr
  exact⟨lf.os,lf.output,lf.size,fun k hk e=>lf.blk k hk (fun e1=>Decidable.of_not_not fun e2=>e (.inl ⟨e1,e2⟩)) (fun e1=>e (.inr (.inl e1))) (fun e1=>e (.inr (.inr e1)))⟩
 have htl:=(Array.getElem?_eq_some_iff.1 h.blk).1
 have hgt:∀b,gv.ownBlock=some b→b≠tp:=fun b e h2=>by
  obtain⟨cur,h3⟩:=z4y h.gr e
  rw[h2,h.blk] at h3
  simp[TreeCells] at h3
 have hgr:∀b,gv.ownBlock=some b→¬((c b=r∧b∉tp::ownL gv)∨c b=rn∨b=lm):=fun b e h2=>by
  have h3:=h.go b e
  rcases h2 with h2|h2|h2
  · exact h2.2 (List.mem_cons_of_mem _ (zcv.2 e))
  · exact ho.nr (h2.symm.trans h3)
  · rw[h2,h.lmo] at h3;exact ho.mr h3
 have g2:=z0m (z0m h.gr f01 hgr) f2 (fun b e h2=>hgt b e h2)
 have hct:c1 tp=r:=(L.ag tp htl).trans h.hd.own
 have hap:Apart c1 r w2 (tp::ownL gv):=zcw hct hb2 g2 (fun b e=>(L.ag b (h.gr.lt b e).2).trans (h.go b e))
 have hap1:Apart c1 r w1 (tp::ownL gv):=L.inn.ap
 have hkm:km<w.heap.size:=h.kept.lt
 have hor:∀b,ov.ownBlock=some b→¬((c b=r∧b∉tp::ownL gv)∨c b=rn∨b=lm):=fun b e h2=>by
  have h3:=h.oo b e
  rcases h2 with h2|h2|h2
  · exact ho.mr (h3.symm.trans h2.1)
  · exact ho.nm (h2.symm.trans h3)
  · obtain⟨cur,h4⟩:=z4y h.orow e
    obtain⟨es,kk,h5,_⟩:=h.live
    rw[h2,h5] at h4;injection h4 with h4;cases h4
 have htp2:∀b,c b=rm→b<w.heap.size→b≠tp:=fun b e hb h2=>ho.mr (e.symm.trans (by rw[h2];exact h.hd.own))
 refine⟨⟨⟨z2k hb2 0 rfl,L.inn.hd.store.apart ho.r0 hap1 (f2.mono fun b _ e=>by rw[e];exact List.mem_cons_self),L.inn.hd.alive,hct⟩,L.inn.cl.mono f2.size,hap,List.mem_cons_self,z2k hb2 7 rfl,z2k hb2 9 rfl,z2k hb2 10 rfl,L.inn.mp.fr f2 (htp2 lm h.lmo h.live.lt),L.inn.ml,(h.kept.fr f01 ?_).fr f2 (htp2 km h.kmo hkm),(L.ag km hkm).trans h.kmo,h.lk,?_,?_,by rw[h.sns.1];exact z0m (z0m h.orow f01 hor) f2 (fun b e h2=>htp2 b (h.oo b e) (h.orow.lt b e).2 h2),fun b e=>(L.ag b (h.orow.lt b e).2).trans (h.oo b e),?_⟩,g2,(f01.mono fun b _ e=>?_).trans f2 (fun b hb e=>by rw[e];exact .inl h.hd.own)⟩
 · rintro(e|e|e)
   · exact ho.mr (h.kmo.symm.trans e.1)
   · exact ho.nm (e.symm.trans h.kmo)
   · exact h.lk e.symm
 · rw[L.laid.st]
   show Z.S.state++ones new=_
   rw[h.bk.st,z92,z93 (fun x hx e=>(L.laid.nw x hx).1 ((h.bk.hl x).2 (.inr (.inr e))))]
 · refine List.nodup_append.2 ⟨h.bk.hn,L.laid.nd,fun a ha b hb e=>?_⟩
   subst e
   exact(L.laid.nw a hb).1 ha
 · refine h.sns.2.1.imp fun v s a=>?_
   have b:=a.fr f01 L.ag (fun e=>by
    rcases e with e|e|e
    · exact ho.mr (a.own.symm.trans e.1)
    · exact ho.nm (e.symm.trans a.own)
    · exact zcr a.blk h.live e) (fun e=>by
    rcases e with e|e|e
    · exact ho.r0 (e.1.symm.trans a.mo)
    · exact ho.n0 (e.symm.trans a.mo)
    · exact ho.m0 (by rw[←h.lmo,←e];exact a.mo))
   exact b.fr f2 (Ag.refl _ _) (fun e=>ho.mr (b.own.symm.trans (by rw[e];exact hct))) (fun e=>ho.r0 (hct.symm.trans (by rw[←e];exact b.mo)))
 · rcases e with e|e|e
   · exact .inl e.1
   · exact .inr (.inl e)
   · exact .inr (.inr (by rw[e];exact h.lmo))
theorem ze2 {D:DSt} (n R:Nat) (h:D.after<1):(dcommit D n R).after<1:=by
 unfold dcommit
 rw[z5n]
 refine z55 ?_
 show(D.tick.flush.tick).after<1
 exact z55 (by rw[z5n];exact z55 h)
theorem ze3 {S:SSt} {D:DSt} {n R:Nat} {l:List (Int×Int)} (h:Alive S D):Alive { S with num:=S.num+1,root:=R,state:=l } (dcommit D n R):=by
 have hd:(dcommit D n R).down=D.down:=(z5m _).trans (z5m _)
 have hl:(dcommit D n R).life=D.life:=(z5p _).trans (z5p _)
 exact⟨by rw[hd];exact h.down,by rw[hl];exact h.life,by rw[zdw];exact h.size,h.small⟩
theorem RootLaid.rid {c:Nat→Nat} {r rn rm:Nat} {w w1:World} {tp st lm:Nat} {ns:List Nat} {nr:Value} {Z:TSt} {c1:Nat→Nat} {o':Root} {new:List Nat} {S1:SSt} {D1:DSt} {R:Nat} {rv:Value} (L:RootLaid c r rn rm w w1 tp st lm ns Z nr c1 o' new S1 D1 R rv) (hsz:1≤Z.D.blocks):R=rootId o'∧R≠1∧R<Z.D.blocks:=by
 rcases L.way with⟨_,rfl,_,rfl⟩|⟨_,_,h2,_,rfl,h3⟩
 · exact⟨rfl,by omega,by omega⟩
 · have h4:=L.root
   have h5:=L.page
   cases ho':o' with
   |none=>rw[ho'] at h3;simp[rcnt] at h3
   | some p =>
     obtain⟨d,t⟩:=p
     rw[ho'] at h4 h5
     obtain⟨h6,_⟩:=h4
     cases d with
     |zero=>exact h6.elim
     | succ d =>
       obtain⟨nm,l2,ks2⟩:=t
       cases nm with
       | page id =>
         obtain⟨e1,e2,e3,_⟩:=h6
         injection e1 with _ e1
         injection e1 with _ e1
         have e1:R=id:=by omega
         subst e1
         exact⟨rfl,by omega,e3⟩
       |mem=>exact h5.elim
theorem ze4 {c:Nat→Nat} {r rn rm:Nat} {w w1 w2 w3 w4 w5:World} {tp st lm km k:Nat} {nr lr gv ov:Value} {Z:TSt} {sn:List Value} {c1 c4:Nat→Nat} {o':Root} {new back kept:List Nat} {S1 S3:SSt} {D1:DSt} {R:Nat} {rv:Value} (ho:Owners r rn rm) (h:TreeIn c r rn rm w tp st lm km nr lr gv ov Z k sn) (hnum:Z.S.num<1000000) (L:RootLaid c r rn rm w w1 tp st lm (tp::ownL gv) Z nr c1 o' new S1 D1 R rv) (fw2:Fr (fun b=>c b=r∨c b=rn∨c b=rm) w w2)
 (hrel:RelIn c1 r rm w3 tp st lm km ov (tp::ownL gv) S3 D1 (Z.held++new) back ((Z.live++new).filter fun j=>decide (j∉Z.gone)) kept Z.snaps sn) (hS3:S3={ S1 with state:=marks (Z.held++new) back }) (hg:Gone Z Z.gone back kept) (f3:Fr (fun b=>(c1 b=r∧b∉tp::ownL gv)∨b=lm∨b=km) w2 w3)
 (ag4:Ag w3.heap.size c1 c4) (cl4:Cl w4 c4) (s4:StoreOk c4 r w4 st (S3.commit R) (dcommit D1 (S3.num+1) R)) (f4:Fr (fun b=>c1 b=r∧b∉tp::ownL gv) w3 w4) (f5:Fr (fun b=>b=tp) w4 w5)
 (hb4:∃cs,w4.heap[tp]?=some (.cells cs 139 (0,0))) (hb5:w5.heap[tp]?=some (.cells (TreeCells st rv ((rootL Z.now).length:Int) (rootD Z.now:Int) rv ((rootL Z.now).length:Int) (rootD Z.now:Int) lm (.slice none 0 0) ov km) 139 (0,0))) :
 ∃c' o' new S1 D1 R rv back kept,Ag w.heap.size c c'∧Fr (fun b=>c b=r∨c b=rn∨c b=rm) w w5∧TreeIn c' r rn rm w5 tp st lm km rv rv (.slice none 0 0) ov (Z.commit o' new S1 D1 R back kept) k sn∧rootL o'=rootL Z.now∧rootD o'=rootD Z.now∧S1.pages=Z.S.pages∧S1.num=Z.S.num∧S1.dk=Z.S.dk∧(Z.D.after<1→(dcommit D1 (S1.num+1) R).after<1):=by
 have hs2:=fw2.size
 have hs3:=f3.size
 have hs4:=f4.size
 have hct1:c1 tp=r:=hrel.hd.own
 have hct:c4 tp=r:=(ag4 tp (hrel.ap.lt tp hrel.tpn)).trans hct1
 obtain⟨cs4,hb4⟩:=hb4
 have hap4:Apart c4 r w4 [tp]:=fun b hb=>by
  simp at hb;subst hb
  exact⟨hct,_,_,_,hb4,by decide,by decide,by decide⟩
 have hag:Ag w.heap.size c c4:=fun b hb=>(ag4 b (by omega)).trans (L.ag b hb)
 have hSc:S3.commit R=(Z.commit o' new S1 D1 R back kept).S:=by
  show SSt.mk _ _ _ _ _ _=SSt.mk _ _ _ _ _ _
  rw[hS3]
  simp only[]
  rw[z96]
 have hNum:S3.num=S1.num:=by rw[hS3]
 have hlk:lm<w3.heap.size∧km<w3.heap.size:=⟨hrel.mp.lt,hrel.kp.lt⟩
 have hlt:∀b,c1 b=rm→b≠tp:=fun b e h2=>ho.mr (e.symm.trans (by rw[h2];exact hct1))
 have hrm:∀b,c1 b=rm→¬(c1 b=r∧b∉tp::ownL gv):=fun b e h2=>ho.mr (e.symm.trans h2.1)
 have or5:=z0m (z0m hrel.orow f4 (fun b e=>hrm b (hrel.oo b e))) f5 (fun b e h2=>hlt b (hrel.oo b e) h2)
 rw[h.sns.1] at or5
 have hpg:∀id,id∈Z.held→pgs (dcommit D1 (S1.num+1) R) id=pgs Z.D id:=fun id hid=>by
  unfold pgs
  rw[zds L.inn.ok _ _ _ (h.bk.hb id hid).1,L.laid.read _ (fun e=>(L.laid.nw id e).1 hid)]
 have hroot:RootAt c4 rn w5 (pgs (dcommit D1 (S1.num+1) R)) (dcommit D1 (S1.num+1) R).blocks False o' rv:=by
  have h1:=RootAt.pg (pg':=pgs (dcommit D1 (S1.num+1) R)) (fun id hid=>?_) L.root
  · have hb:(dcommit D1 (S1.num+1) R).blocks=Z.D.blocks:=(zdw _ _ _).trans L.laid.blocks
    rw[hb]
    exact RootAt.pageW L.page h1
  · unfold pgs
    have hh:=L.cnts id
    rw[zds L.inn.ok]
    by_cases h0:id∈new
    · exact(L.laid.nw id h0).2.1
    · have hz:new.count id=0:=List.count_eq_zero.2 h0
      have hb1:=h.bk.b1 id
      split at hb1
      · exact(h.bk.hb id ((h.bk.hl id).2 (.inl (by assumption)))).1
      · omega
 have hal:=h.hd.alive
 have hRid:=L.rid (by have:=hal.size;omega)
 have hbooks:=ze0 (R:=R) h.bk hnum L.laid L.inn.ok L.root L.page L.flat L.cnts hRid.1 hRid.2.1 hRid.2.2 (by have:=hal.size;have:=hal.small;omega) hg
 have hsns:All2 (SnapM c4 rm w5 tp) sn Z.snaps:=hrel.sns.imp fun v s a=>by
  have b:=a.fr f4 ag4 (hrm _ a.own) (fun e=>ho.r0 (e.1.symm.trans a.mo))
  exact b.fr f5 (Ag.refl _ _) (fun e=>ho.mr (b.own.symm.trans (by rw[e];exact hct))) (fun e=>ho.r0 (hct.symm.trans (by rw[←e];exact b.mo)))
 have hsr:∀s∈Z.snaps,RootAt c4 rn w5 (pgs (dcommit D1 (S1.num+1) R)) (dcommit D1 (S1.num+1) R).blocks False s.root (wRoot s.root):=fun s hs=>by
  have hok:=h.bk.kp.ok s hs
  rw[show(dcommit D1 (S1.num+1) R).blocks=Z.D.blocks from(zdw _ _ _).trans L.laid.blocks]
  refine RootAt.pg (fun id hid=>hpg id ((h.bk.hl id).2 ?_)) (RootAt.pageW hok.page (h.sns.2.2 s hs))
  have h1:=hok.cnt id
  split at h1
  · rcases hok.sub id (by assumption) with h2|h2
    · exact .inl h2
    · exact .inr (.inl h2)
  · omega
 rw[hNum] at s4
 rw[hSc] at s4
 refine⟨c4,o',new,S1,D1,R,rv,back,kept,hag,((fw2.trans f3 (fun b hb e=>?_)).trans f4 (fun b hb e=>.inl ((L.ag b hb).symm.trans e.1))).trans f5 (fun b hb e=>by rw[e];exact .inl h.hd.own),⟨⟨z2k hb5 0 rfl,s4.apart ho.r0 hap4 (f5.mono fun b _ e=>by rw[e];simp),?_,hct⟩,cl4.mono f5.size,?_,World.ownsRow_nil _ _ _ _,fun b e=>by simp[Value.ownBlock] at e,or5,fun b e=>(ag4 b (hrel.orow.lt b e).2).trans (hrel.oo b e),(hrel.mp.fr f4 (hrm lm hrel.ml)).fr f5 (hlt lm hrel.ml),(ag4 lm hlk.1).trans hrel.ml,(hrel.kp.fr f4 (hrm km hrel.mo)).fr f5 (hlt km hrel.mo),(ag4 km hlk.2).trans hrel.mo,h.lk,hroot,hroot,⟨h.sns.1,hsns,hsr⟩,hbooks⟩,L.flat,L.depth,by rw[L.laid.st],by rw[L.laid.st],by rw[L.laid.st],fun h0=>ze2 _ _ (L.laid.af h0)⟩
 · rcases e with e|e|e
   · exact .inl ((L.ag b hb).symm.trans e.1)
   · exact .inr (.inr (by rw[e];exact h.lmo))
   · exact .inr (.inr (by rw[e];exact h.kmo))
 · exact ze3 L.inn.hd.alive
 · rw[show rootL (Z.commit o' new S1 D1 R back kept).now=rootL Z.now from L.flat,show rootL (Z.commit o' new S1 D1 R back kept).last=rootL Z.now from L.flat,show rootD (Z.commit o' new S1 D1 R back kept).now=rootD Z.now from L.depth,show rootD (Z.commit o' new S1 D1 R back kept).last=rootD Z.now from L.depth]
   exact hb5
theorem RootLaid.more {c:Nat→Nat} {r rn rm:Nat} {w w1:World} {tp st lm:Nat} {ns:List Nat} {nr:Value} {Z:TSt} {c1:Nat→Nat} {o':Root} {new:List Nat} {S1:SSt} {D1:DSt} {R:Nat} {rv:Value} (L:RootLaid c r rn rm w w1 tp st lm ns Z nr c1 o' new S1 D1 R rv) (h:Books Z) (hp:Z.S.pages≤5000):D1.opn.length<100000∧(R=0∨¬R=0∧R∈Z.held++new∧R∉Z.gone∧R∉Z.back):=by
 have h1:=z99 (b:=(List.range Z.S.pages).map (·+2)) L.laid.nd fun x hx=>by
  have:=L.laid.nw x hx
  exact List.mem_map.2 ⟨x-2,List.mem_range.2 (by omega),by show x-2+2=x;omega⟩
 refine⟨by rw[L.laid.opn,h.opn];simp at h1⊢;omega,?_⟩
 rcases L.way with⟨_,h2,_⟩|⟨_,_,h2,h3,_,h4⟩
 · exact .inl h2
 · refine .inr ⟨by omega,?_⟩
   have h5:=L.cnts R
   have h6:=h.b1 R
   have h7:new.count R=if R∈new then 1 else 0:=L.laid.nd.count
   have h8:=h.gn.1
   have h9:Z.gone.count R=if R∈Z.gone then 1 else 0:=h8.count
   by_cases a:R∈new
   · refine⟨List.mem_append_right _ a,fun hg=>?_,fun hg=>?_⟩
     · exact(L.laid.nw R a).1 ((h.hl R).2 (.inl (h.gn.2 R hg)))
     · exact(L.laid.nw R a).1 ((h.hl R).2 (.inr (.inr hg)))
   · rw[if_neg a] at h7
     split at h6
     · rename_i hl
       refine⟨List.mem_append_left _ ((h.hl R).2 (.inl hl)),fun hg=>?_,(h.kp.lk R hl).2⟩
       rw[if_pos hg] at h9
       omega
     · omega
end
end Go.Proofs.YtidalepbkljkpaaGreat
