import Derived.Test.YtidalepbkljkpaaGreatLocalSpaces25
set_option linter.all false
namespace Go.Proofs.YtidalepbkljkpaaGreat
open Go.RowKit Go.H
set_option maxHeartbeats 2000000
set_option maxRecDepth 100000
section
theorem zch {w:World} {tp:Nat}:Calls Tryz.prog 149 #[.pointer (some ⟨tp,0,none⟩),.nilIface] w fun e w'=>e=.returned (.int .i64 0)∧w=w':=by
 go_enter Tryz.func149,Tryz.ntmps149
 go_wp2
 go_ret
 exact⟨rfl,rfl⟩
theorem zci {c:Nat→Nat} {r rn rm:Nat} {w:World} {tp st lm:Nat} {ns:List Nat} {S:SSt} {D:DSt} {held live:List Nat} {d m id:Nat} {l:List KV} {ks:List T} {v:Value} (h:LayIn c r rm w tp st lm ns S D held live) (hr:Rep c rn w (pgs D) D.blocks False d (.node (.page id) l ks) v) (hs:Shape d m (.node (.page id) l ks)) :
 Calls Tryz.prog 149 #[.pointer (some ⟨tp,0,none⟩),v] w (LayRes c r rn rm w tp st lm ns S D held live d m (.node (.page id) l ks) v):=by
 cases d with
 |zero=>exact hr.elim
 |succ d=>
 have hn:=hr.num
 have hv:v=wPage id:=hr.1
 have hid:=hr.2.1
 have HFR:=zhd (z77 hn)
 have hdf:decide (T.id (.node (.page id) l ks)=0)=false:=by
  have h0:¬id=0:=by omega
  simp[T.id,T.nm,h0]
 rw[hdf] at HFR
 clear hdf
 have HE:Hid (LayRes c r rn rm w tp st lm ns S D held live (d+1) m (.node (.page id) l ks) v (.returned (.int .i64 0)) w):=zhd (.inl ⟨c,.node (.page id) l ks,[],S,D,rfl,Ag.refl _ _,by simpa using h,Laid2.nil,rfl,trivial,hn,by rw[←show v=wPage (T.id (.node (.page id) l ks)) from hv];exact hr,hs,rfl,fun _=>by simp,LFr.refl _ _ _ _ _ _ _ _⟩)
 subst hv
 clear h hr hs hn
 go_enter Tryz.func149,Tryz.ntmps149
 go_wp2_with fail
 refine HFR.out.mono ?_
 rintro e w1 ⟨rfl,rfl⟩
 go_wp2
 go_ret
 exact HE.out
theorem zcj {c:Nat→Nat} {r rn rm:Nat} {w:World} {tp st lm:Nat} {ns:List Nat} {S:SSt} {D:DSt} {held live:List Nat} {m n g o:Nat} {l:List KV} {ks:List T} {v:Value} (hr0:r≠0) (hn0:rn≠0) (hm0:rm≠0) (hnr:rn≠r) (hmr:rm≠r) (hnm:rn≠rm) (h:LayIn c r rm w tp st lm ns S D held live) (hlive:∀x∈live,x∈held) (hr:Rep c rn w (pgs D) D.blocks False 1 (.node (.mem n g o) l ks) v) (hs:Shape 1 m (.node (.mem n g o) l ks)) (hlt:held.length<S.pages) (hop:D.opn.length<100000) :
 Calls Tryz.prog 149 #[.pointer (some ⟨tp,0,none⟩),v] w (LayRes c r rn rm w tp st lm ns S D held live 1 m (.node (.mem n g o) l ks) v):=by
 have hn:=hr.num
 have HFR:=zhd (z77 hn)
 rw[show decide (T.id (.node (.mem n g o) l ks)=0)=true from rfl] at HFR
 obtain⟨kvs,hN,hcn,hcg,hks,hpl,_⟩:=hr
 obtain⟨q1,q2,q3,q4⟩:=hs
 have hks0:ks=[]:=q4
 subst hks0
 have hkv0:kvs=[]:=List.eq_nil_of_length_eq_zero (All2.length hks).symm
 subst hkv0
 have hv:v=wLeaf n:=by
  obtain⟨lv,_,_,_,h3⟩:=hN
  rcases h3 with⟨_,h3⟩|⟨h3,_⟩
  · exact h3
  · exact absurd rfl h3
 have hn0c:w.cell? ⟨n,0,none⟩=some (.int .i64 ((0:Nat):Int)):=hN.choose_spec.1
 subst hv
 have hel:=zcf (ids:=[]) q2 q3 (by simp)
 have HB:=zhd (fun (w_:World) (hf:Fr C0 w w_)=>z7h (hN.fr hf (fun h=>h) (fun _ h=>h) (fun _ _ h=>h)) q2 q3)
 have t0:=h.hd.cell
 have t7:=h.tl
 have HI:=zhd h
 have HNC:=zhd hn0c
 have HCN:=zhd hcn
 have HPL:=zhd hpl
 have HQ:=zhd (And.intro q1 (And.intro q2 q3))
 obtain⟨bk9,hst9,-⟩:=h.st
 have hff:=z9b hst9 hlt
 clear hst9 bk9
 have hfne:¬(S.first:Int)=0:=by omega
 clear h hn hN hcn hcg hks hpl q1 q2 q3 q4 hn0c
 go_enter Tryz.func149,Tryz.ntmps149
 go_wp2_with fail
 refine HFR.out.mono ?_
 rintro e w1 ⟨rfl,rfl⟩
 go_wp2_with fail
 have hap:=HI.out.ap
 refine z1z (Fr (fun b=>c b=r∧b∉ns) w) [] (by kernel_rfl) ?_
 have hSw0:(Fr (fun b=>c b=r∧b∉ns) w) _:=(Fr.refl _ w).drew
 refine tk 0 hSw0 ?_
 refine tk 1 hSw0 ?_
 refine tk 2 hSw0 ?_
 refine tk 3 hSw0 ?_ (hy:=by intro w_ hS_;have b0:=hS_.cell t0 (fun h=>h.2 HI.out.tpn);first|(go_simp;done)|(go_simp;with_reducible rfl))
 refine tk 4 hSw0 ?_
 refine one_ 5 rfl (fun K hK=>?_)
 go_simp
 refine(HB.out _ ((Fr.refl C0 w).drew)).mono ?_
 rintro e w2 ⟨v2,rfl,f2,o2⟩
 simp only[]
 have F2:=zhd (((Fr.refl C0 w).drew).trans0 f2)
 have B2:Hid (BytesAt (Dt c) w2 v2 (encB l [])):=zhd (BytesAt.ofOwn o2 (fun b e=>HI.out.cl b (by have:=(o2.lt b e).1;exact this)))
 clear f2 o2
 refine hK.out _ _ ?kS1 (fun hSw1=>?kR1)
 case kS1=>exact F2.out.mono (fun _ _ h=>h.elim)
 clear hK K
 try simp only[Act.put,zs1,zs2,zs3]
 refine one_ 6 rfl (fun K hK=>?_)
 go_simp
 refine(z8x (HI.out.hd.fr0 F2.out).store HI.out.hd.alive hr0 (HI.out.cl.mono F2.out.size) (HI.out.ap.fr F2.out (fun _ _ h=>h)) hop B2.out hel (by omega) (by omega)).mono ?_
 rintro e w3 ⟨i9,err,rfl,HR⟩
 simp only[]
 have F3:=zhd HR.out.1
 refine hK.out _ _ ?kS2 (fun hSw2=>?kR2)
 case kS2=>exact(F2.out.mono (fun _ _ h=>h.elim)).trans F3.out (fun _ _ h=>h)
 clear hK K
 try simp only[Act.put,zs1,zs2,zs3]
 refine tk 7 hSw2 ?_
 refine tk 8 hSw2 ?_
 refine tk 9 hSw2 ?_
 refine tk 10 hSw2 ?_
 refine tk 11 hSw2 ?_
 refine z1y (by kernel_rfl) ?_ _
 have F13:=zhd ((F2.out.mono (C2:=fun b=>c b=r∧b∉ns) (fun _ _ h=>h.elim)).trans F3.out (fun _ _ h=>h))
 obtain⟨f3,(⟨rfl,rfl,c3,ag3,cl3,s3⟩|⟨rfl,rfl,hfell⟩)⟩:=HR.out
 case inr=>
  have HE:Hid (LayNo c r rn w lm ns S D held (.returned (.int .i64 20)) w3):=zhd ⟨rfl,F13.out.mono (fun _ _ h=>.inl h),hfell.later (Ag.refl _ _) F2.out.size (fun h=>h) rfl (fun D' hq=>zce hq held)⟩
  clear HR hfell f3
  go_wp2
  go_ret
  exact .inr HE.out
 have HP:=zhd (fun w4 m4 f4=>zcg (w4:=w4) (rn:=rn) hr0 hm0 hmr HI.out hlive hlt hel F2.out ag3 cl3 s3 f3 m4 f4)
 have A3:=zhd ag3
 have hs3:=f3.size
 clear ag3 cl3 s3 f3 HR
 have t7':=F13.out.cell t7 (fun h=>h.2 HI.out.tpn)
 have M3:=zhd (HI.out.mp.fr F13.out (fun e=>hmr (HI.out.ml.symm.trans e.1)))
 have n3:=F13.out.cell HNC.out (fun e=>hnr (HCN.out.symm.trans e.1))
 have P3:=HPL.out.fr F13.out (fun e=>hnr (HCN.out.symm.trans e.1))
 have hlmn:¬n=lm:=fun e=>hnm (by rw[←HCN.out,e];exact HI.out.ml)
 go_wp2_with (refine z24 rfl Tryz.underlying136 Tryz.underlying3 _ _ _ rfl (m:=lm) (k:=(S.first:Int)) (v:=.int .i64 1) rfl rfl rfl M3.out ?_;intro w4 n4 f4;have n0':=f4.cell n3 hlmn;have z0':=(P3.fr f4 hlmn).free 0)
 go_ret
 obtain⟨l4,d4,g4⟩:=HP.out w4 n4 f4
 have nl:=World.block_lt_of_cell? w _ HNC.out
 have a4:Ag w.heap.size c c3:=fun b hb=>A3.out b (by have:=F2.out.size;omega)
 have fs:=(Fr.refl (fun b=>c3 b=rn) w4).setCell (p:=⟨n,0,none⟩) (.inr ((a4 n nl).trans HCN.out)) (.int .i64 (S.first:Int))
 refine .inl ⟨c3,.node (.page S.first) l [],[S.first],_,_,rfl,a4,l4.frN fs hnr hn0 hnm,d4,rfl,trivial,.inr ⟨n,.inl rfl,World.cell?_setCell_same _ _ _ n0'⟩,⟨rfl,hff.1,by rw[HI.out.hd.alive.size];omega,.inl ?_,by simp⟩,⟨HQ.out.1,HQ.out.2.1,HQ.out.2.2,rfl⟩,rfl,fun id=>?_,?_⟩
 · rw[zca hel,if_pos rfl];rfl
 · by_cases hid:id=S.first
   · subst hid;simp[cnt,Nm.cnt,sumN]
   · simp[cnt,Nm.cnt,sumN,hid,List.count_cons,Ne.symm hid]
 · refine LFr.trans (LFr.ofFr g4 (fun e=>hnr e.symm) (by rw[HI.out.ml];exact fun e=>hnm e.symm)) (LFr.set (d:=1) (t:=.node (.mem n g o) l []) (lm:=lm) (ns:=ns) (r:=r) (.int .i64 (S.first:Int)) ((a4 n nl).trans HCN.out) (by rw[zb5];simp;omega) n0' (by intro A k m e;cases e)) a4 (fun _ _ h=>h) (fun _ _ h=>h)
def LayIH (r rn rm tp st lm:Nat) (ns:List Nat) (d:Nat):Prop:=
 ∀ (c : Nat → Nat) (w : World) (S : SSt) (D : DSt) (held live : List Nat) (m : Nat) (t : T) (v : Value), LayIn c r rm w tp st lm ns S D held live → (∀ x ∈ live, x ∈ held) → Rep c rn w (pgs D) D.blocks False d t v → Shape d m t → (∀ id, 0 < cnt d (.pg id) t → id ∈ held) → (∀ b o, cnt d (.cl b o) t ≤ 1) → held.length + dirtyN d t ≤ S.pages → D.opn.length + dirtyN d t ≤ 50000 →
   Calls Tryz.prog 149 #[.pointer (some ⟨tp,0,none⟩),v] w (LayRes c r rn rm w tp st lm ns S D held live d m t v)
structure LKid (c:Nat→Nat) (rn:Nat) (w:World) (pg:Nat→Option Bs) (N d:Nat) (k:T) (u:Value) (k':T):Prop where
 page:k'.isPage
 num:Num w u k'.id
 rep:Rep c rn w pg N False d k' (wPage k'.id)
 shape:Shape d 2 k'
 flat:flat d k'=flat d k
theorem Num.lfr {c:Nat→Nat} {r rn lm:Nat} {ns:List Nat} {w w':World} {d:Nat} {t:T} {u:Value} {k:Nat} (h:Num w u k) (hf:LFr c r rn lm ns w w' d t) (hz:∀n,(u=wLeaf n∨u=wInner n)→c n=rn∧cnt d (.cl n 0) t=0):Num w' u k:=by
 rcases h with h|⟨n,h,hc⟩
 · exact .inl h
 · have:=hz n h
   exact .inr ⟨n,h,hf.cell _ _ _ this.1 hc (.inl this.2)⟩
theorem LKid.go {c c':Nat→Nat} {r rn lm:Nat} {ns:List Nat} {w w':World} {pg pg':Nat→Option Bs} {N d d1:Nat} {t1 k:T} {u:Value} {k':T} (h:LKid c rn w pg N d k u k') (hf:LFr c r rn lm ns w w' d1 t1) (hz:∀n,(u=wLeaf n∨u=wInner n)→c n=rn∧cnt d1 (.cl n 0) t1=0) (hp:∀id,0<cnt d (.pg id) k'→pg' id=pg id):LKid c' rn w' pg' N d k u k':=
 ⟨h.page,h.num.lfr hf hz,Rep.pg hp (Rep.pageW h.page h.rep),h.shape,h.flat⟩
theorem zck {c:Nat→Nat} {rn:Nat} {w:World} {pg:Nat→Option Bs} {N:Nat} {X:Prop} {d:Nat} {t:T} {u:Value} (h:Rep c rn w pg N X d t u) {n:Nat} (hu:u=wLeaf n∨u=wInner n):c n=rn∧0<cnt d (.cl n 0) t:=by
 cases d with
 |zero=>exact h.elim
 | succ d =>
   obtain⟨nm,l,ks⟩:=t
   cases nm with
   |page id=>have:=h.1;rcases hu with hu|hu<;>rw[hu] at this<;>cases this
   | mem a g o =>
     obtain⟨kvs,hN,hcn,_⟩:=h
     obtain⟨lv,_,_,_,h3⟩:=hN
     have:a=n:=by
      rcases h3 with⟨_,h3⟩|⟨_,h3,_⟩<;>rcases hu with hu|hu<;>rw[hu] at h3<;>injection h3 with e1 e2
      · injection e2 with e2;injection e2 with e2;injection e2 with e2;exact e2.symm
      · cases e1
      · cases e1
      · injection e2 with e2;injection e2 with e2;injection e2 with e2;exact e2.symm
     subst this
     exact⟨hcn,by rw[zb5];simp;omega⟩
theorem zcl {l:List Nat} {i j:Nat} (hij:i<j) (hj:j<l.length):(l[i]'(by omega))+l[j]≤sumN l:=by
 have h1:=zaa hj
 have h2:=zab l (j+1)
 have h3:(l[i]'(by omega))∈l.take j:=by
  rw[List.mem_iff_getElem]
  exact⟨i,by simp;omega,by simp⟩
 have h4:=z75 h3
 omega
theorem getS {α:Type} {l:List α} {i:Nat} {a:α} (h:l[i]?=some a):∃hi:i<l.length,l[i]=a:=by
 by_cases hi:i<l.length
 · rw[List.getElem?_eq_getElem hi] at h;injection h with h;exact⟨hi,h⟩
 · rw[List.getElem?_eq_none (by omega)] at h;cases h
structure Unlike (d n g o:Nat) (ks:List T):Prop where
 me:∀(i:Nat) (k:T),ks[i]?=some k→cnt d (.cl n 0) k=0
 row:∀(i:Nat) (k:T) (j:Nat),ks[i]?=some k→j<ks.length→cnt d (.cl g (o+j)) k=0
 two:∀(i j:Nat) (k k2:T),ks[i]?=some k→ks[j]?=some k2→i≠j→∀b p,0<cnt d (.cl b p) k2→cnt d (.cl b p) k=0
 ng:∀j,j<ks.length→¬(n=g∧0=o+j)
theorem zcm {d n g o:Nat} {l:List KV} {ks:List T} (h:∀b p,cnt (d+1) (.cl b p) (.node (.mem n g o) l ks)≤1):Unlike d n g o ks:=by
 have hk:∀(i:Nat) (k:T) (b p:Nat),ks[i]?=some k→cnt d (.cl b p) k≤sumN (ks.map (cnt d (.cl b p))):=fun i k b p hi=>by
  obtain⟨hi',rfl⟩:=getS hi
  exact z75 (List.mem_map_of_mem (List.getElem_mem hi'))
 refine⟨fun i k hi=>?_,fun i k j hi hj=>?_,fun i j k k2 hi hj hne b p hp=>?_,fun j hj=>?_⟩
 · have h1:=h n 0
   have h2:=hk i k n 0 hi
   rw[zb5,if_pos ⟨rfl,rfl⟩] at h1
   omega
 · have h1:=h g (o+j)
   have h2:=hk i k g (o+j) hi
   rw[zb5,if_pos (show g=g∧o≤o+j∧o+j<o+ks.length from⟨rfl,by omega,by omega⟩)] at h1
   omega
 · have h1:=h b p
   rw[zb5] at h1
   obtain⟨hi',rfl⟩:=getS hi
   obtain⟨hj',rfl⟩:=getS hj
   rcases Nat.lt_or_gt_of_ne hne with hl|hl
   · have:=zcl (l:=ks.map (cnt d (.cl b p))) hl (by simpa using hj')
     simp only[List.getElem_map] at this
     omega
   · have:=zcl (l:=ks.map (cnt d (.cl b p))) hl (by simpa using hi')
     simp only[List.getElem_map] at this
     omega
 · rintro⟨e1,e2⟩
   have h1:=h n 0
   rw[zb5,if_pos ⟨rfl,rfl⟩,if_pos (show n=g∧o≤0∧0<o+ks.length from⟨e1,by omega,by omega⟩)] at h1
   omega
theorem zcn {d n g o b p i:Nat} {l:List KV} {ks:List T} {k:T} (h:cnt (d+1) (.cl b p) (.node (.mem n g o) l ks)=0) (hi:ks[i]?=some k):cnt d (.cl b p) k=0:=by
 obtain⟨hi',rfl⟩:=getS hi
 have:=z75 (List.mem_map_of_mem (f:=cnt d (.cl b p)) (List.getElem_mem hi'))
 rw[zb5] at h
 omega
def KidCells (c:Nat→Nat) (rn:Nat) (w:World) (d:Nat) (ks:List T) (kvs:List Value):Prop:=∀(i:Nat) (k:T) (u:Value) (n:Nat),ks[i]?=some k→kvs[i]?=some u→(u=wLeaf n∨u=wInner n)→c n=rn∧0<cnt d (.cl n 0) k∧n<w.heap.size
structure LayLoop (c:Nat→Nat) (r rn rm:Nat) (w:World) (tp st lm:Nat) (ns:List Nat) (S:SSt) (D:DSt) (held live:List Nat) (d n g o:Nat) (l:List KV) (ks:List T) (kvs:List Value) (v:Value) (k:Nat) (wr:World) (c1:Nat→Nat) (tsd:List T) (new:List Nat) (S1:SSt) (D1:DSt):Prop where
 ag:Ag w.heap.size c c1
 inn:LayIn c1 r rm wr tp st lm ns S1 D1 (held++new) (live++new)
 laid:Laid2 S D held new S1 D1
 len:new.length=sumN ((ks.map (dirtyN d)).take k)
 tl:tsd.length=k
 done:∀(i:Nat) (k0:T) (u:Value),i<k→ks[i]?=some k0→kvs[i]?=some u→∃k',tsd[i]?=some k'∧LKid c1 rn wr (pgs D1) D.blocks d k0 u k'
 inh:∀k'∈tsd,∀id,0<cnt d (.pg id) k'→id∈held++new
 cnts:∀id,sumN (tsd.map (cnt d (.pg id)))=sumN ((ks.map (cnt d (.pg id))).take k)+new.count id
 lfr:LFr c r rn lm ns w wr (d+1) (.node (.mem n g o) l ks)
 node:NodeAt (Dt c1) wr n g o 0 l kvs v
 rest:∀(i:Nat) (k0:T) (u:Value),k≤i→ks[i]?=some k0→kvs[i]?=some u→Rep c1 rn wr (pgs D1) D.blocks False d k0 u
theorem LayLoop.step {c:Nat→Nat} {r rn rm:Nat} {w:World} {tp st lm:Nat} {ns:List Nat} {S:SSt} {D:DSt} {held live:List Nat} {d n g o:Nat} {l:List KV} {ks:List T} {kvs:List Value} {v:Value} {k:Nat} {wr:World} {c1:Nat→Nat} {tsd:List T} {new:List Nat} {S1:SSt} {D1:DSt} {k0:T} {u:Value} {e:Ending} {w':World} (hr0:r≠0) (hn0:rn≠0) (hm0:rm≠0) (H:LayLoop c r rn rm w tp st lm ns S D held live d n g o l ks kvs v k wr c1 tsd new S1 D1) (hk:ks[k]?=some k0) (hu:kvs[k]?=some u) (U:Unlike d n g o ks) (KC:KidCells c rn w d ks kvs) (hcn:c n=rn) (hcg:kvs≠[]→c g=rn) (hnl:n<w.heap.size) (hgl:kvs≠[]→g<w.heap.size) (hlen:kvs.length=ks.length) (hheld:∀(i:Nat) (k0:T),ks[i]?=some k0→∀id,0<cnt d (.pg id) k0→id∈held)
 (R:LayOk c1 r rn rm wr tp st lm ns S1 D1 (held++new) (live++new) d 2 k0 u e w'):e=.returned (.int .i64 0)∧∃c2 tsd2 new2 S2 D2,LayLoop c r rn rm w tp st lm ns S D held live d n g o l ks kvs v (k+1) w' c2 tsd2 new2 S2 D2:=by
 obtain⟨c',t',new',S',D',rfl,ag',in',laid',len',pg',num',rep',sh',fl',cn',lf'⟩:=R
 obtain⟨hkl,hk'⟩:=getS hk
 have hsz:=H.lfr.size
 have hnew:∀id,id∈held++new→id∉new':=fun id h h2=>(laid'.nw id h2).1 h
 have hpg:∀id,id∈held++new→pgs D' id=pgs D1 id:=fun id h=>by unfold pgs;rw[laid'.read id (hnew id h)]
 have hw1:∀b,b<w.heap.size→b<wr.heap.size:=fun b h=>by omega
 refine⟨rfl,c',tsd++[t'],new++new',S',D',?_⟩
 refine⟨Ag.trans H.ag ag' hsz,by rw[←List.append_assoc,←List.append_assoc];exact in',Laid2.trans H.laid laid',?_,by rw[List.length_append,H.tl];rfl,fun i k1 u1 hi hk1 hu1=>?_,fun k1 hk1 id hid=>?_,fun id=>?_,?_,?_,fun i k1 u1 hi hk1 hu1=>?_⟩
 · rw[List.length_append,H.len,len',zaa (by simpa using hkl)]
   simp[hk']
 · by_cases hik:i=k
   · subst hik
     rw[hk] at hk1;injection hk1 with hk1;subst hk1
     rw[hu] at hu1;injection hu1 with hu1;subst hu1
     refine⟨t',by rw[List.getElem?_append_right (by rw[H.tl];exact Nat.le_refl _),H.tl];simp,pg',num',?_,sh',fl'⟩
     rw[←H.laid.blocks];exact rep'
   · have hik2:i<k:=by omega
     obtain⟨k2,h2,h3⟩:=H.done i k1 u1 hik2 hk1 hu1
     refine⟨k2,by rw[List.getElem?_append_left (by rw[H.tl];exact hik2)];exact h2,h3.go lf' (fun m hm=>?_) (fun id hid=>hpg id (H.inh k2 (List.mem_of_getElem? h2) id hid))⟩
     have hc:=KC i k1 u1 m hk1 hu1 hm
     exact⟨(H.ag m hc.2.2).trans hc.1,U.two k i k0 k1 hk hk1 (fun e=>hik e.symm) m 0 hc.2.1⟩
 · rw[←List.append_assoc]
   rcases List.mem_append.1 hk1 with hk1|hk1
   · exact List.mem_append_left _ (H.inh k1 hk1 id hid)
   · simp at hk1;subst hk1
     rw[cn' id] at hid
     by_cases h0:0<cnt d (.pg id) k0
     · exact List.mem_append_left _ (List.mem_append_left _ (hheld k k0 hk id h0))
     · exact List.mem_append_right _ (List.count_pos_iff.1 (by omega))
 · have h1:=H.cnts id
   have h2:=cn' id
   rw[List.map_append,z74,h1,List.count_append,zaa (by simpa using hkl)]
   simp[hk',sumN,h2];omega
 · exact LFr.trans H.lfr lf' H.ag (fun _ _ h=>h) (fun b p h=>zcn h hk)
 · have hN:=H.node.lfr hr0 hn0 (by rw[H.inn.ml];exact hm0) lf' ((H.ag n hnl).trans hcn) (fun hne=>(H.ag g (hgl hne)).trans (hcg hne)) (U.me k k0 hk) (fun i hi=>U.row k k0 i hk (by omega))
   exact hN.mono fun b hb _=>(ag' b hb.2).trans hb.1
 · have h1:=H.rest i k1 u1 (by omega) hk1 hu1
   exact Rep.pg (fun id hid=>hpg id (List.mem_append_left _ (hheld i k1 hk1 id hid))) (Rep.lfr hr0 hn0 (by rw[in'.ml];exact hm0) (lf'.ag ag') (fun b p hb=>U.two k i k0 k1 hk hk1 (by omega) b p hb) (Rep.ag ag' h1))
theorem zco {α β:Type} {R:α→β→Prop}:∀{l:List α} {m:List β},l.length=m.length→(∀(i:Nat) (a:α) (b:β),l[i]?=some a→m[i]?=some b→R a b)→All2 R l m
 |[],[],_,_=>.nil
 |[],_::_,h,_=>by simp at h
 |_::_,[],h,_=>by simp at h
 |a::l,b::m,h,hr=>.cons (hr 0 a b rfl rfl) (zco (by simpa using h) fun i x y hx hy=>hr (i+1) x y hx hy)
theorem LayLoop.start {c:Nat→Nat} {r rn rm:Nat} {w:World} {tp st lm:Nat} {ns:List Nat} {S:SSt} {D:DSt} {held live:List Nat} {d n g o:Nat} {l:List KV} {ks:List T} {kvs:List Value} {v:Value} (h:LayIn c r rm w tp st lm ns S D held live) (hN:NodeAt (Dt c) w n g o 0 l kvs v) (hk:All2 (Rep c rn w (pgs D) D.blocks False d) ks kvs):LayLoop c r rn rm w tp st lm ns S D held live d n g o l ks kvs v 0 w c [] [] S D:=
 ⟨Ag.refl _ _, by simpa using h, Laid2.nil, by simp [sumN], rfl, fun i _ _ hi => absurd hi (by omega), fun k' hk' => by simp at hk', fun id => by simp [sumN], LFr.refl _ _ _ _ _ _ _ _, hN, fun i k0 u _ h1 h2 => by
  obtain⟨a,rfl⟩:=getS h1
  obtain⟨b,rfl⟩:=getS h2
  exact All2.get i a b hk⟩
structure LayLoop2 (c:Nat→Nat) (r rn lm:Nat) (w:World) (ns:List Nat) (d n g o id:Nat) (l:List KV) (ks:List T) (kvs:List Value) (ids:List Nat) (kc:Nat) (c3:Nat→Nat) (w5:World) (k:Nat) (wr:World):Prop where
 fr:Fr (fun b=>c3 b=rn) w5 wr
 cells:∀(j:Nat) (u:Value),k≤j→kvs[j]?=some u→wr.cell? ⟨g,o+j,none⟩=some u
 nums:∀(j:Nat) (u:Value) (x:Nat),k≤j→kvs[j]?=some u→ids[j]?=some x→Num wr u x
 c0:wr.cell? ⟨n,0,none⟩=some (.int .i64 (id:Int))
 c2:wr.cell? ⟨n,2,none⟩=some (.slice (some ⟨g,o,none⟩) kvs.length kc)
 pg:Plain wr g
 lfr:LFr c r rn lm ns w wr (d+1) (.node (.mem n g o) l ks)
theorem LayLoop2.drew {c:Nat→Nat} {r rn lm:Nat} {w:World} {ns:List Nat} {d n g o id:Nat} {l:List KV} {ks:List T} {kvs:List Value} {ids:List Nat} {kc:Nat} {c3:Nat→Nat} {w5:World} {k:Nat} {wr:World} (H:LayLoop2 c r rn lm w ns d n g o id l ks kvs ids kc c3 w5 k wr):LayLoop2 c r rn lm w ns d n g o id l ks kvs ids kc c3 w5 k wr.drew:=
 ⟨H.fr.drew,H.cells,fun j u x a b e=>(H.nums j u x a b e).fr0 (Fr.refl C0 wr).drew,H.c0,H.c2,H.pg,⟨H.lfr.os,H.lfr.output,H.lfr.size,H.lfr.blk,H.lfr.cell,H.lfr.plain⟩⟩
theorem LayLoop2.step {c:Nat→Nat} {r rn lm:Nat} {w:World} {ns:List Nat} {d n g o id:Nat} {l:List KV} {ks:List T} {kvs:List Value} {ids:List Nat} {kc:Nat} {c3:Nat→Nat} {w5:World} {k:Nat} {wr:World} {tx:TypeId} {y:Value} {u2:Value} (H:LayLoop2 c r rn lm w ns d n g o id l ks kvs ids kc c3 w5 k wr) (hk:kvs[k]?=some (.iface tx y)) (hkk:k<ks.length) (hlen:kvs.length=ks.length) (U:Unlike d n g o ks) (KC:KidCells c rn w d ks kvs) (hcg:c g=rn) (hcg3:c3 g=rn) (ha:Ag w.heap.size c c3):LayLoop2 c r rn lm w ns d n g o id l ks kvs ids kc c3 w5 (k+1) (wr.setCell ⟨g,o+k,none⟩ u2):=by
 have hc:=H.cells k _ (Nat.le_refl _) hk
 have hne:∀b p (x:Value),(b≠g∨p≠o+k)→wr.cell? ⟨b,p,none⟩=some x→(wr.setCell ⟨g,o+k,none⟩ u2).cell? ⟨b,p,none⟩=some x:=fun b p x h hx=>by
  rw[World.cell?_setCell_other (h:=fun e=>by injection e with e1 e2 _;rcases h with h|h;exact h e1.symm;exact h e2.symm)];exact hx
 refine⟨H.fr.setCell (.inr hcg3) u2,fun j u hj hu=>hne _ _ _ (.inr (by omega)) (H.cells j u (by omega) hu),fun j u x hj hu hx=>?_,hne _ _ _ ?_ H.c0,hne _ _ _ ?_ H.c2,H.pg.set,LFr.trans H.lfr (LFr.set (d:=d+1) (t:=.node (.mem n g o) l ks) (x:=.iface tx y) u2 hcg (by rw[zb5,if_pos (show g=g∧o≤o+k∧o+k<o+ks.length from⟨rfl,by omega,by omega⟩)];omega) hc (fun A a b e=>by cases e)) (Ag.refl _ _) (fun _ _ h=>h) (fun _ _ h=>h)⟩
 · rcases H.nums j u x (by omega) hu hx with h|⟨b,h,h2⟩
   · exact .inl h
   · obtain⟨hj2,hj3⟩:=getS hu
     have hkj:ks[j]?=some (ks[j]'(by omega)):=List.getElem?_eq_getElem _
     have h3:=KC j _ u b hkj hu h
     refine .inr ⟨b,h,hne _ _ _ ?_ h2⟩
     by_cases e:b=g
     · refine .inr fun e2=>?_
       have:=U.row j _ k hkj hkk
       rw[←e,←e2] at this
       omega
     · exact .inl e
 · by_cases e:n=g
   · exact .inr fun e2=>U.ng k hkk ⟨e,e2⟩
   · exact .inl e
 · by_cases e:n=g
   · refine .inr fun e2=>?_
     have h1:=H.c2
     rw[e,e2,hc] at h1
     injection h1 with h1
     cases h1
   · exact .inl e
theorem zcp {c:Nat→Nat} {r rn rm:Nat} {w:World} {tp st lm:Nat} {ns:List Nat} {S:SSt} {D:DSt} {held live:List Nat} {d m n g o:Nat} {l:List KV} {ks:List T} {v:Value} (hr0:r≠0) (hn0:rn≠0) (hm0:rm≠0) (hnr:rn≠r) (hmr:rm≠r) (hnm:rn≠rm) (hd0:¬d=0) (ih:LayIH r rn rm tp st lm ns d) (h:LayIn c r rm w tp st lm ns S D held live) (hlive:∀x∈live,x∈held) (hr:Rep c rn w (pgs D) D.blocks False (d+1) (.node (.mem n g o) l ks) v) (hs:Shape (d+1) m (.node (.mem n g o) l ks)) (hheld:∀id,0<cnt (d+1) (.pg id) (.node (.mem n g o) l ks)→id∈held) (hone:∀b p,cnt (d+1) (.cl b p) (.node (.mem n g o) l ks)≤1) (hlt:held.length+dirtyN (d+1) (.node (.mem n g o) l ks)≤S.pages) (hop:D.opn.length+dirtyN (d+1) (.node (.mem n g o) l ks)≤50000) :
 Calls Tryz.prog 149 #[.pointer (some ⟨tp,0,none⟩),v] w (LayRes c r rn rm w tp st lm ns S D held live (d+1) m (.node (.mem n g o) l ks) v):=by
 have hn:=hr.num
 have HFR:=zhd (z77 hn)
 rw[show decide (T.id (.node (.mem n g o) l ks)=0)=true from rfl] at HFR
 have U:=zhd (zcm hone)
 have hdN:dirtyN (d+1) (.node (.mem n g o) l ks)=1+sumN (ks.map (dirtyN d)):=rfl
 obtain⟨kvs,hN,hcn,hcg,hks,hpl,hpg⟩:=hr
 obtain⟨q1,q2,q3,q4⟩:=hs
 rw[if_neg hd0] at q4
 have hkl:=All2.length hks
 have hkne:kvs≠[]:=fun e=>by
  rw[e] at hkl
  have h0:ks.length=0:=hkl
  have:=q4.1
  omega
 have HST:=zhd (LayLoop.start h hN hks)
 have hlt1:=hN.lt
 have KC:Hid (KidCells c rn w d ks kvs):=zhd fun i k u b hi hu hb=>by
  obtain⟨a1,rfl⟩:=getS hi
  obtain⟨a2,rfl⟩:=getS hu
  have hrk:=All2.get i a1 a2 hks
  have h1:=zck hrk hb
  refine⟨h1.1,h1.2,?_⟩
  rcases hrk.num with h3|⟨n2,h3,h4⟩
  · rcases hb with hb|hb<;>rw[hb] at h3<;>cases h3
  · have:n2=b:=by
     rcases hb with hb|hb<;>rcases h3 with h3|h3<;>rw[hb] at h3<;>injection h3 with e1 e2
     · injection e2 with e2;injection e2 with e2;injection e2 with e2;exact e2.symm
     · cases e1
     · cases e1
     · injection e2 with e2;injection e2 with e2;injection e2 with e2;exact e2.symm
    rw[←this];exact World.block_lt_of_cell? w _ h4
 obtain⟨lv,m0,m1,hit,h3⟩:=hN
 rcases h3 with⟨h3,_⟩|⟨_,rfl,kc,k0,k1,k2,k3⟩
 · exact absurd h3 hkne
 have HN:Hid (NodeAt (Dt c) w n g o 0 l kvs (wInner n)):=zhd ⟨lv,m0,m1,hit,.inr ⟨hkne,rfl,kc,k0,k1,k2,k3⟩⟩
 have HI:=zhd h
 have HCN:=zhd hcn
 have HCG:=zhd (hcg hkne)
 have HPL:=zhd (And.intro hpl (hpg hkne))
 have HQ:=zhd (And.intro q1 (And.intro q2 (And.intro q3 q4)))
 have HKS:=zhd hks
 have HIH:=zhd ih
 have HHELD:Hid (∀(i:Nat) (k0:T),ks[i]?=some k0→∀id,0<cnt d (.pg id) k0→id∈held):=zhd fun i k0 hi id hid=>hheld id (by
  obtain⟨a1,rfl⟩:=getS hi
  have:=z75 (List.mem_map_of_mem (f:=cnt d (.pg id)) (List.getElem_mem a1))
  rw[zba];omega)
 have HONE:Hid (∀(i:Nat) (k0:T),ks[i]?=some k0→∀b p,cnt d (.cl b p) k0≤1):=zhd fun i k0 hi b p=>by
  obtain⟨a1,rfl⟩:=getS hi
  have:=z75 (List.mem_map_of_mem (f:=cnt d (.cl b p)) (List.getElem_mem a1))
  have h2:=hone b p
  rw[zb5] at h2;omega
 have HDN:=zhd hdN
 have hk5:kvs.length≤5:=by have:=q4.1;omega
 unfold maxLen at k2
 rw[hdN] at hlt hop
 clear h hn hcn hcg hks hpl hpg q1 q2 q3 q4 m0 m1 hit k3 hheld hone ih hdN
 go_enter Tryz.func149,Tryz.ntmps149
 go_wp2_with fail
 refine HFR.out.mono ?_
 rintro e w1 ⟨rfl,rfl⟩
 go_wp2
 go_loopw [8,9,32] (fun _ _ i wr=>∃k:Nat,k≤kvs.length∧i=.int .i64 (k:Int)∧Hid (∃c1 tsd new S1 D1,LayLoop c r rn rm w tp st lm ns S D held live d n g o l ks kvs (wInner n) k wr c1 tsd new S1 D1)) (fun _ _ i _=>kvs.length-(intOf i).toNat)
 case atStart=>exact⟨0,Nat.zero_le _,rfl,zhd ⟨_,_,_,_,_,HST.out⟩⟩
 case round=>
  obtain⟨k,hk,rfl,HL⟩:=hrel
  obtain⟨c1,tsd,new,S1,D1,H⟩:=HL.out
  have HH:=zhd H
  clear HL H
  by_cases hlt2:k<kvs.length
  · have hkk:k<ks.length:=by omega
    have hcell:wr.cell? ⟨g,o+k,none⟩=some kvs[k]:=by
     obtain⟨_,_,_,_,h3⟩:=HH.out.node
     rcases h3 with⟨h3,_⟩|⟨_,_,_,_,_,_,h4⟩
     · exact absurd h3 hkne
     · exact h4 k kvs[k] (List.getElem?_eq_getElem _)
    have hdk:=zaa (l:=ks.map (dirtyN d)) (k:=k) (by simpa using hkk)
    have hdk2:=zab (ks.map (dirtyN d)) (k+1)
    simp only[List.getElem_map] at hdk
    have hnl:=HH.out.len
    have HC:=zhd (HIH.out c1 wr S1 D1 (held++new) (live++new) 2 ks[k] kvs[k] HH.out.inn (fun x hx=>by
     rcases List.mem_append.1 hx with hx|hx
     · exact List.mem_append_left _ (hlive x hx)
     · exact List.mem_append_right _ hx) (by rw[HH.out.laid.blocks];exact HH.out.rest k ks[k] kvs[k] (Nat.le_refl _) (List.getElem?_eq_getElem _) (List.getElem?_eq_getElem _)) (HQ.out.2.2.2.2 _ (List.getElem_mem _)) (fun id hid=>List.mem_append_left _ (HHELD.out k ks[k] (List.getElem?_eq_getElem _) id hid)) (HONE.out k ks[k] (List.getElem?_eq_getElem _)) (by rw[List.length_append,hnl,HH.out.laid.st];show _≤S.pages;omega) (by rw[HH.out.laid.opn,hnl];omega))
    have HSTEP:=zhd (fun e w' R=>HH.out.step (e:=e) (w':=w') hr0 hn0 hm0 (List.getElem?_eq_getElem hkk) (List.getElem?_eq_getElem hlt2) U.out KC.out HCN.out (fun _=>HCG.out) hlt1.1 hlt1.2 hkl.symm HHELD.out R)
    obtain⟨tx,y,hy⟩:=(All2.get k hkk hlt2 HKS.out).iface
    rw[hy] at hcell HC HSTEP
    clear hdk hdk2 hnl hy
    go_wp2_with fail
    refine HC.out.mono ?_
    rintro e w' R
    rcases R with R|R
    case inr=>
     have hno:=R.later HH.out.lfr.frx HH.out.ag HH.out.laid
     obtain rfl:=hno.1
     have HE:=zhd hno
     clear R HC HSTEP hno
     go_wp2
     go_ret
     exact .inr HE.out
    obtain⟨rfl,c2,tsd2,new2,S2,D2,H2⟩:=HSTEP.out e w' R
    have HH2:=zhd H2
    clear H2 R HC HSTEP
    go_wp2
    refine⟨⟨k+1,by omega,by go_num,zhd ⟨_,_,_,_,_,HH2.out⟩⟩,?_⟩
    simp[intOf];omega
  · obtain rfl:k=kvs.length:=by omega
    have hktl:tsd.length=ks.length:=by rw[HH.out.tl];exact hkl.symm
    have HDONE:Hid (∀(i:Nat) (k0:T) (u:Value),ks[i]?=some k0→kvs[i]?=some u→∃k',tsd[i]?=some k'∧LKid c1 rn wr (pgs D1) D.blocks d k0 u k'):=zhd fun i k0 u hi hu=>HH.out.done i k0 u (by obtain⟨a,_⟩:=getS hu;exact a) hi hu
    have HNU:Hid (∀(j:Nat) (u:Value) (x:Nat),kvs[j]?=some u→(tsd.map T.id)[j]?=some x→Num wr u x):=zhd fun j u x hu hx=>by
     obtain⟨a,_⟩:=getS hu
     obtain⟨k',h1,h2⟩:=HDONE.out j _ u (List.getElem?_eq_getElem (by omega)) hu
     rw[List.getElem?_map,h1] at hx
     injection hx with hx
     rw[←hx];exact h2.num
    have hnums:Nums wr kvs (tsd.map T.id):=zco (by simp;omega) fun i a b ha hb=>HNU.out i a b ha hb
    have HT:Hid (∀k'∈tsd,∃(i:Nat) (k0:T),ks[i]?=some k0∧k'.isPage∧Rep c1 rn wr (pgs D1) D.blocks False d k' (wPage k'.id)∧Shape d 2 k'∧flat d k'=flat d k0∧tsd[i]?=some k'):=zhd fun k' hk'=>by
     obtain⟨i,hi,hik⟩:=List.getElem_of_mem hk'
     obtain⟨k2,h1,h2⟩:=HDONE.out i _ _ (List.getElem?_eq_getElem (show i<ks.length by omega)) (List.getElem?_eq_getElem (show i<kvs.length by omega))
     have h3:tsd[i]?=some k':=by rw[List.getElem?_eq_getElem hi,hik]
     rw[h3] at h1;injection h1 with h1;subst h1
     exact⟨i,_,List.getElem?_eq_getElem (show i<ks.length by omega),h2.page,h2.rep,h2.shape,h2.flat,h3⟩
    have hid16:∀x∈tsd.map T.id,x<16384:=fun x hx=>by
     obtain⟨k',hk',rfl⟩:=List.mem_map.1 hx
     obtain⟨i,k0,_,h2,h3,_⟩:=HT.out k' hk'
     have hb:k'.id<D.blocks:=by
      cases d with
      |zero=>exact absurd rfl hd0
      | succ d =>
        obtain⟨nm,l2,ks2⟩:=k'
        cases nm with
        |page id=>exact h3.2.2.1
        |mem=>exact h2.elim
     have:=HI.out.hd.alive.size
     have:=HI.out.hd.alive.small
     omega
    have hel:=zcf (ids:=tsd.map T.id) HQ.out.2.1 HQ.out.2.2.1 (by simp;omega)
    have HB:=zhd (fun (w_:World) (hf:Fr C0 wr w_)=>z7i ((HH.out.node).fr hf (fun h=>h) (fun _ h=>h) (fun _ _ h=>h)) hkne (hnums.fr0 hf) HQ.out.2.1 HQ.out.2.2.1 (by simp;omega) hid16)
    have hnl:=HH.out.len
    rw[List.take_of_length_le (by simp;omega)] at hnl
    have hlt1':(held++new).length<S1.pages:=by rw[List.length_append,hnl,HH.out.laid.st];show _<S.pages;omega
    obtain⟨bk9,hst9,-⟩:=HH.out.inn.st
    have hff:=z9b hst9 hlt1'
    clear hst9 bk9
    have hfne:¬(S1.first:Int)=0:=by omega
    have t0:=HH.out.inn.hd.cell
    have t7:=HH.out.inn.tl
    have HLV:Hid (∀x∈live++new,x∈held++new):=zhd fun x hx=>by
     rcases List.mem_append.1 hx with hx|hx
     · exact List.mem_append_left _ (hlive x hx)
     · exact List.mem_append_right _ hx
    have hop1:D1.opn.length<100000:=by rw[HH.out.laid.opn,hnl];omega
    have HNL:=zhd hnl
    clear hnums hid16 hnl
    go_wp2_with fail
    refine z1z (Fr (fun b=>c1 b=r∧b∉ns) wr) [] (by kernel_rfl) ?_
    have hSw0:(Fr (fun b=>c1 b=r∧b∉ns) wr) _:=(Fr.refl _ wr).drew
    refine tk 0 hSw0 ?_
    refine tk 1 hSw0 ?_
    refine tk 2 hSw0 ?_
    refine tk 3 hSw0 ?_ (hy:=by intro w_ hS_;have b0:=hS_.cell t0 (fun h=>h.2 HH.out.inn.tpn);first|(go_simp;done)|(go_simp;with_reducible rfl))
    refine tk 4 hSw0 ?_
    refine one_ 5 rfl (fun K hK=>?_)
    go_simp
    refine(HB.out _ ((Fr.refl C0 wr).drew)).mono ?_
    rintro e w2 ⟨v2,rfl,f2,o2⟩
    simp only[]
    have F2:=zhd (((Fr.refl C0 wr).drew).trans0 f2)
    have B2:Hid (BytesAt (Dt c1) w2 v2 (encB l (tsd.map T.id))):=zhd (BytesAt.ofOwn o2 (fun b e=>HH.out.inn.cl b (by have:=(o2.lt b e).1;exact this)))
    clear f2 o2
    refine hK.out _ _ ?kS3 (fun hSw1=>?kR3)
    case kS3=>exact F2.out.mono (fun _ _ h=>h.elim)
    clear hK K
    try simp only[Act.put,zs1,zs2,zs3]
    refine one_ 6 rfl (fun K hK=>?_)
    go_simp
    refine(z8x (HH.out.inn.hd.fr0 F2.out).store HH.out.inn.hd.alive hr0 (HH.out.inn.cl.mono F2.out.size) (HH.out.inn.ap.fr F2.out (fun _ _ h=>h)) hop1 B2.out hel (by omega) (by omega)).mono ?_
    rintro e w3 ⟨i9,err,rfl,HR⟩
    simp only[]
    have F3:=zhd HR.out.1
    refine hK.out _ _ ?kS4 (fun hSw2=>?kR4)
    case kS4=>exact(F2.out.mono (fun _ _ h=>h.elim)).trans F3.out (fun _ _ h=>h)
    clear hK K
    try simp only[Act.put,zs1,zs2,zs3]
    refine tk 7 hSw2 ?_
    refine tk 8 hSw2 ?_
    refine tk 9 hSw2 ?_
    refine tk 10 hSw2 ?_
    refine tk 11 hSw2 ?_
    refine z1y (by kernel_rfl) ?_ _
    have F13:=zhd ((F2.out.mono (C2:=fun b=>c1 b=r∧b∉ns) (fun _ _ h=>h.elim)).trans F3.out (fun _ _ h=>h))
    obtain⟨f3,(⟨rfl,rfl,c3,ag3,cl3,s3⟩|⟨rfl,rfl,hfell⟩)⟩:=HR.out
    case inr=>
     have hno:LayNo c1 r rn wr lm ns S1 D1 (held++new) (.returned (.int .i64 20)) w3:=⟨rfl,F13.out.mono (fun _ _ h=>.inl h),hfell.later (Ag.refl _ _) F2.out.size (fun h=>h) rfl (fun D' hq=>zce hq _)⟩
     have HE:=zhd (hno.later HH.out.lfr.frx HH.out.ag HH.out.laid)
     clear HR hfell f3 hno t0 t7
     go_wp2
     go_ret
     exact .inr HE.out
    have HP:=zhd (fun w4 m4 f4=>zcg (w4:=w4) (rn:=rn) hr0 hm0 hmr HH.out.inn HLV.out hlt1' hel F2.out ag3 cl3 s3 f3 m4 f4)
    have A3:=zhd ag3
    have hs3:=f3.size
    clear ag3 cl3 s3 f3 HR
    have hcn1:c1 n=rn:=(HH.out.ag n hlt1.1).trans HCN.out
    have hcg1:c1 g=rn:=(HH.out.ag g (hlt1.2 hkne)).trans HCG.out
    have hnn:∀b,c1 b=rn→¬(c1 b=r∧b∉ns):=fun b h e=>hnr (h.symm.trans e.1)
    obtain⟨lv,m0,m1,hit,h3⟩:=HH.out.node
    rcases h3 with⟨h3,_⟩|⟨_,_,kc2,k0',k1',k2',k3'⟩
    · exact absurd h3 hkne
    have K3:=zhd k3'
    have t7':=F13.out.cell t7 (fun h=>h.2 HH.out.inn.tpn)
    have M3:=zhd (HH.out.inn.mp.fr F13.out (fun e=>hmr (HH.out.inn.ml.symm.trans e.1)))
    have n3:=F13.out.cell m0 (hnn n hcn1)
    have n32:=F13.out.cell k0' (hnn n hcn1)
    have P3:=(HH.out.lfr.plain n HCN.out HPL.out.1).fr F13.out (hnn n hcn1)
    have PG3:=(HH.out.lfr.plain g HCG.out HPL.out.2).fr F13.out (hnn g hcg1)
    have hlmn:¬n=lm:=fun e=>hnm (by rw[←hcn1,e];exact HH.out.inn.ml)
    have hlmg:¬g=lm:=fun e=>hnm (by rw[←hcg1,e];exact HH.out.inn.ml)
    unfold maxLen at k2'
    clear m0 m1 hit k0' k3' t0 t7
    go_wp2_with (refine z24 rfl Tryz.underlying136 Tryz.underlying3 _ _ _ rfl (m:=lm) (k:=(S1.first:Int)) (v:=.int .i64 1) rfl rfl rfl M3.out ?_;intro w4 n4 f4;have n0':=f4.cell n3 hlmn;have n02:=f4.cell n32 hlmn;have z0':=(P3.fr f4 hlmn).free 0)
    obtain⟨l4,d4,g4⟩:=HP.out w4 n4 f4
    have L4:=zhd l4
    have D4:=zhd d4
    have G4:=zhd g4
    have a3r:Ag wr.heap.size c1 c3:=fun b hb=>A3.out b (by have:=F2.out.size;omega)
    have hsz:=HH.out.lfr.size
    have a3w:Ag w.heap.size c c3:=Ag.trans HH.out.ag a3r hsz
    have hcn3:c3 n=rn:=(a3w n hlt1.1).trans HCN.out
    have hcg3:c3 g=rn:=(a3w g (hlt1.2 hkne)).trans HCG.out
    have hF:∀b p x,c1 b=rn→b≠lm→wr.cell? ⟨b,p,none⟩=some x→w4.cell? ⟨b,p,none⟩=some x:=fun b p x hb hl hx=>f4.cell (F13.out.cell hx (hnn b hb)) hl
    have hW:∀b p x,(b≠n∨p≠0)→w4.cell? ⟨b,p,none⟩=some x→(w4.setCell ⟨n,0,none⟩ (.int .i64 (S1.first:Int))).cell? ⟨b,p,none⟩=some x:=fun b p x h hx=>by
     rw[World.cell?_setCell_other (h:=fun e=>by injection e with e1 e2 _;rcases h with h|h;exact h e1.symm;exact h e2.symm)];exact hx
    have H20:LayLoop2 c r rn lm w ns d n g o S1.first l ks kvs (tsd.map T.id) kc2 c3 (w4.setCell ⟨n,0,none⟩ (.int .i64 (S1.first:Int))) 0 (w4.setCell ⟨n,0,none⟩ (.int .i64 (S1.first:Int))):=by
     refine⟨Fr.refl _ _,fun j u _ hu=>hW _ _ _ ?_ (hF _ _ _ hcg1 hlmg (K3.out j u hu)),fun j u x _ hu hx=>?_,World.cell?_setCell_same _ _ _ n0',hW _ _ _ (.inr (by decide)) n02,(PG3.fr f4 hlmg).set,?_⟩
     · by_cases e:g=n
       · exact .inr fun e2=>U.out.ng j (by obtain⟨a,_⟩:=getS hu;omega) ⟨e.symm,e2.symm⟩
       · exact .inl e
     · rcases HNU.out j u x hu hx with h|⟨b,h,h2⟩
       · exact .inl h
       · obtain⟨hj,_⟩:=getS hu
         have hkj:ks[j]?=some (ks[j]'(by omega)):=List.getElem?_eq_getElem _
         have h3:=KC.out j _ u b hkj hu h
         have hb1:c1 b=rn:=(HH.out.ag b h3.2.2).trans h3.1
         refine .inr ⟨b,h,hW _ _ _ (.inl fun e=>?_) (hF _ _ _ hb1 (fun e=>hnm (by rw[←hb1,e];exact HH.out.inn.ml)) h2)⟩
         have:=U.out.me j _ hkj
         rw[←e] at this
         omega
     · refine LFr.trans (LFr.trans HH.out.lfr (LFr.ofFr g4 (fun e=>hnr e.symm) (by rw[HH.out.inn.ml];exact fun e=>hnm e.symm)) HH.out.ag (fun _ _ h=>h) (fun _ _ h=>h) (d:=d+1) (t:=.node (.mem n g o) l ks) (d2:=d+1) (t2:=.node (.mem n g o) l ks)) (LFr.set (d:=d+1) (t:=.node (.mem n g o) l ks) _ hcn3 (by rw[zb5];simp;omega) n0' (by intro A k m e;cases e)) a3w (fun _ _ h=>h) (fun _ _ h=>h)
    have HS2:=zhd H20
    have FS:=zhd ((Fr.refl (fun b=>c3 b=rn) w4).setCell (p:=⟨n,0,none⟩) (.inr hcn3) (.int .i64 (S1.first:Int)))
    have HA3:=zhd a3w
    generalize w4.setCell ⟨n,0,none⟩ (.int .i64 (S1.first:Int))=w5 at *
    clear l4 d4 g4 a3r hF hW H20 a3w n3 n32 P3 PG3 n4 f4 n0' n02 z0' t7' hs3 hfne
    go_loopw [12,13,71] (fun _ _ i wr2=>∃k:Nat,k≤kvs.length∧i=.int .i64 (k:Int)∧Hid (LayLoop2 c r rn lm w ns d n g o S1.first l ks kvs (tsd.map T.id) kc2 c3 w5 k wr2)) (fun _ _ i _=>kvs.length-(intOf i).toNat)
    case atStart=>exact⟨0,Nat.zero_le _,rfl,HS2⟩
    case round=>
     obtain⟨k,hk,rfl,HL2⟩:=hrel
     by_cases hlt3:k<kvs.length
     · have hkk:k<ks.length:=by omega
       obtain⟨tx,y,hy⟩:=(All2.get k hkk hlt3 HKS.out).iface
       have hku:kvs[k]?=some (.iface tx y):=by rw[List.getElem?_eq_getElem hlt3,hy]
       have hkc:=HL2.out.cells k _ (Nat.le_refl _) hku
       have hnum:=HL2.out.nums k _ _ (Nat.le_refl _) hku (List.getElem?_eq_getElem (show k<(tsd.map T.id).length by simp;omega))
       have c2_:=HL2.out.c2
       have zg:=HL2.out.pg.free (o+k)
       have HSTEP:=zhd (fun u2=>HL2.out.step (u2:=u2) hku hkk hkl.symm U.out KC.out HCG.out hcg3 HA3.out)
       have HNM:=zhd hnum
       generalize (tsd.map T.id)[k]'(by simp;omega)=idk at *
       clear hku hnum hy
       go_wp2_with fail
       refine z1z (Fr C0 wr) [9] (by kernel_rfl) ?_
       have hSw0:(Fr C0 wr) _:=(Fr.refl C0 wr).drew
       refine tk 0 hSw0 ?_
       refine tk 1 hSw0 ?_
       refine tk 2 hSw0 ?_
       refine tk 3 hSw0 ?_ (hy:=by intro w_ hS_;have b2:=hS_.cell0 c2_;first|(go_simp;done)|(go_simp;with_reducible rfl))
       refine tk 4 hSw0 ?_
       refine tk 5 hSw0 ?_
       refine one_ 6 rfl (fun K hK=>?_)
       go_simp
       refine(z76 (HNM.out.fr0 (Fr.refl C0 wr).drew)).mono ?_
       rintro e w6 ⟨rfl,rfl⟩
       simp only[]
       refine hK.out _ _ ?kS5 (fun hSw1=>?kR5)
       case kS5=>exact(Fr.refl _ wr).drew
       clear hK K
       try simp only[Act.put,zs1,zs2,zs3]
       refine tk 7 hSw1 ?_
       refine tk 8 hSw1 ?_
       refine z1v 9 rfl (fun K hK=>?_)
       go_simp
       refine hK.out _ _ ?_;clear hK K
       try simp only[Act.put,zs1,zs2,zs3]
       refine z1y (by kernel_rfl) ?_ _
       have HN2:=zhd (HSTEP.out (wPage idk)).drew
       clear HSTEP
       go_wp2
       go_roundw
       case rel=>exact⟨k+1,by omega,by go_num,HN2⟩
       case measure=>simp[intOf];omega
     · obtain rfl:k=kvs.length:=by omega
       go_wp2
       go_ret
       have hI:=(L4.out.frN FS.out hnr hn0 hnm).frN HL2.out.fr hnr hn0 hnm
       rw[List.append_assoc,List.append_assoc] at hI
       have hS1:S1.pages=S.pages:=by rw[HH.out.laid.st]
       have hDb:=HI.out.hd.alive.size
       refine .inl ⟨c3,.node (.page S1.first) l tsd,new++[S1.first],_,_,rfl,HA3.out,hI,HH.out.laid.trans D4.out,?_,trivial,.inr ⟨n,.inr rfl,HL2.out.c0⟩,⟨rfl,hff.1,by omega,.inl ?_,fun k' hk'=>?_⟩,⟨HQ.out.1,HQ.out.2.1,HQ.out.2.2.1,?_⟩,?_,fun id=>?_,HL2.out.lfr⟩
       · rw[List.length_append,HNL.out,HDN.out];simp<;>omega
       · rw[zca hel,if_pos rfl]
       · obtain⟨i,k0,h1,h2,h3,h4,h5,h6⟩:=HT.out k' hk'
         refine⟨h2,Rep.pg (fun id hid=>?_) (Rep.pageW h2 h3)⟩
         rw[zca hel,if_neg (fun e=>hff.2.2 (by rw[←e];exact HH.out.inh k' hk' id hid))]
         rfl
       · rw[if_neg hd0]
         refine⟨by rw[hktl];exact HQ.out.2.2.2.1,fun k' hk'=>?_⟩
         obtain⟨i,k0,h1,h2,h3,h4,h5,h6⟩:=HT.out k' hk'
         exact h4
       · show(if d=0 then _ else _)=(if d=0 then _ else _)
         rw[if_neg hd0,if_neg hd0]
         congr 1
         refine List.ext_getElem (by simp;omega) fun i h1 h2=>?_
         simp only[List.getElem_map]
         have h1':i<tsd.length:=by simpa using h1
         obtain⟨j,k0,g1,g2,g3,g4,g5,g6⟩:=HT.out _ (List.getElem_mem h1')
         obtain⟨k2,e1,e2⟩:=HDONE.out i _ _ (List.getElem?_eq_getElem (show i<ks.length by omega)) (List.getElem?_eq_getElem (show i<kvs.length by omega))
         rw[List.getElem?_eq_getElem h1'] at e1
         injection e1 with e1
         rw[e1,e2.flat]
       · have h1:=HH.out.cnts id
         rw[List.take_of_length_le (by simp;omega)] at h1
         rw[zba,List.count_append]
         show Nm.cnt (.pg id) _ (.page S1.first)+sumN (tsd.map (cnt d (.pg id)))=_
         rw[h1]
         by_cases hid:id=S1.first
         · subst hid;simp[Nm.cnt]<;>omega
         · simp[Nm.cnt,hid,List.count_cons,Ne.symm hid]<;>omega
theorem zcq {r rn rm tp st lm:Nat} {ns:List Nat} (hr0:r≠0) (hn0:rn≠0) (hm0:rm≠0) (hnr:rn≠r) (hmr:rm≠r) (hnm:rn≠rm) (d:Nat):LayIH r rn rm tp st lm ns d:=by
 induction d with
 |zero=>intro c w S D held live m t v h hl hr;exact hr.elim
 | succ d ih =>
   intro c w S D held live m t v h hl hr hs hh hone hlt hop
   obtain⟨nm,l,ks⟩:=t
   cases nm with
   |page id=>exact zci h hr hs
   | mem n g o =>
     by_cases hd:d=0
     · subst hd
       have hd1:1≤dirtyN (0+1) (.node (.mem n g o) l ks):=by simp[dirtyN]
       exact zcj hr0 hn0 hm0 hnr hmr hnm h hl hr hs (by omega) (by omega)
     · exact zcp hr0 hn0 hm0 hnr hmr hnm hd ih h hl hr hs hh hone hlt hop
end
end Go.Proofs.YtidalepbkljkpaaGreat
