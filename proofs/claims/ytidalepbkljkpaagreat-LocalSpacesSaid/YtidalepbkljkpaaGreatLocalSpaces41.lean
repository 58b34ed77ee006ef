import Derived.Test.YtidalepbkljkpaaGreatLocalSpaces40
import Derived.Test.YtidalepbkljkpaaGreatLocalSpaces29
set_option linter.all false
namespace Go.Proofs.YtidalepbkljkpaaGreat
open Go.RowKit Go.H
set_option maxRecDepth 100000
section
set_option maxHeartbeats 4000000
theorem InnerAt.setBoth {c:Nat→Nat} {qn rn:Nat} {w w':World} {pg:Nat→Option Bs} {N d n:Nat} {l:List KV} {ks:List T} {L0 lc G kc:Nat} {xs kvs:List Value} {i:Nat} {ta:T} {v kv vv:Value} {x:KV} (h:InnerAt c qn rn w pg N d n l ks L0 lc G kc xs kvs) (hn0:qn≠0) (hnn:qn≠rn) (hi:i<kvs.length) (hr:Rep c rn w pg N False d ta v) (bk:BytesAt (Dt c) w kv x.1) (bv:BytesAt (Dt c) w vv x.2) (hf:Fr (fun b=>b=G∨b=L0) w w') (hk:w'.ownsRow 0 20 1 (.slice (some ⟨G,0,none⟩) kvs.length kc) kvs.length (kvs.set i v)) (hl:w'.ownsRow 0 200 2 (.slice (some ⟨L0,0,none⟩) l.length lc) l.length ((xs.set (i*2) kv).set (i*2+1) vv)) :
 InnerAt c qn rn w' pg N d n (l.set i x) (ks.set i ta) L0 lc G kc ((xs.set (i*2) kv).set (i*2+1) vv) (kvs.set i v):=by
 have hq:∀b,(b=G∨b=L0)→c b=qn:=fun b e=>by
  rcases e with rfl|rfl
  · exact h.cg.1
  · exact h.cl.1
 have h1:∀b,(b=G∨b=L0)→c b≠rn:=fun b e k=>hnn ((hq b e).symm.trans k)
 have h2:∀b,(b=G∨b=L0)→c b≠0:=fun b e k=>hn0 ((hq b e).symm.trans k)
 have hc:=h.cells.fr hf (fun b e k=>h2 b k e)
 have hk1:=bk.fr hf (fun b e k=>h2 b k e)
 have hv1:=bv.fr hf (fun b e k=>h2 b k e)
 exact⟨by rw[List.length_set,List.length_set];exact hf.blk h.blk (fun e=>e.elim (fun e=>h.cg.2.1 e.symm) (fun e=>h.cl.2 e.symm)),by rw[List.length_set];exact hl,ItemCells.set hk1 hv1 i hc,by rw[List.length_set];exact hk,All2.set (Rep.fr hf h1 h2 hr) i (h.kids.imp fun _ _ h=>Rep.fr hf h1 h2 h),h.cn,h.cl,h.cg⟩
def TakeIH (r rn q st tp wp:Nat) (S:SSt) (D:DSt) (kv:Value) (key:List UInt8) (d:Nat):Prop:=∀{m:Nat} {c:Nat→Nat} {w:World} {t:T} {v:Value} {gone:List Nat},Hd c r w tp st S D→Cl w c→WorkAt c q w wp tp gone→Rep c rn w (pgs D) D.blocks False d t v→Shape d m t→1≤m→Sorted (flat d t)→getL key (flat d t)≠none→BytesAt (Dt c) w kv key→gone.length+2*d≤1000000→
 Calls Tryz.prog 146 #[.pointer (some ⟨wp,0,none⟩),v,kv] w (TakeEnd c rn q w (pgs D) D.blocks d m t (delL key (flat d t)) wp tp gone)
theorem zhl {c c2:Nat→Nat} {r rn q qn:Nat} {w w3:World} {tp st wp:Nat} {S:SSt} {D:DSt} {d m n i:Nat} {t ta:T} {l0 L:List KV} {gone gone2:List Nat} (hq0:q≠0) (hqr:q≠r) (hqn:q≠rn) (hr0:rn≠0) (hn0:qn≠0) (hnr:qn≠r) (hnn:qn≠rn) (hnq:qn≠q) (hh:Hd c r w tp st S D) (hc:Cl w c) (hqf:∀b,c b≠qn) (ag2:Ag w.heap.size c c2) (F03:Fr (fun b=>c b=q) w w3) (cl2:Cl w3 c2) (wk2:WorkAt c2 q w3 wp tp gone2) (ia:InnerOpen c2 qn rn w3 (pgs D) D.blocks (d+1) n l0 (t.ks.set i ta)) (hl0:l0.length=t.l.length) (hkv0:∀y∈l0,KVok y) (hs:Shape (d+1+1) m t) (hm:1≤m) (hik:i<t.ks.length) (hsa:Shape (d+1) 1 ta) (hma:T.isMem' ta)
 (hz:∀b o,w.heap.size≤b→sumN (t.ks.map (cnt (d+1) (.cl b o)))=0) (hd:sumN (t.ks.map (dirtyN (d+1)))≤dirtyN (d+1+1) t) (acc:Acc w.heap.size (d+1) t.ks[i] [ta] (gone++goneOf t) gone2) (hg2:gone2.length≤gone.length+1+2*(d+1)) (hgl:gone.length+2*(d+1+1)≤1000000) (hfl:inter l0 ((t.ks.set i ta).map (flat (d+1)))=L) :
 Calls Tryz.prog 163 #[.pointer (some ⟨wp,0,none⟩),.pointer (some ⟨n,0,none⟩),.int .i64 i] w3 fun e w4=>e=.returned (.tuple #[])∧TakeRes c rn q w (pgs D) D.blocks (d+1+1) m t L wp tp gone 194 (.pointer (some ⟨n,0,none⟩)) w4:=by
 have hX:∀b,c b=q→c2 b=q:=fun b e=>by
  by_cases hl:b<w.heap.size
  · exact(ag2 b hl).trans e
  · exact absurd ((hc b (by omega)).symm.trans e) (fun k=>hq0 k.symm)
 have hsf:=zgt hs
 have hkn:=hsf.2.2.2.2.1 (by omega)
 have hset:(t.ks.set i ta)[i]'(by simpa using hik)=ta:=by simp
 have hnl:=ia.lt
 have hcn:c2 n=qn:=by obtain⟨_,_,_,_,_,_,_,_,_,h,_⟩:=ia.ex;exact h
 refine(zh6 (i:=i) hq0 hqr hqn hn0 hnr hnn hnq hr0 ((hh.ag ag2).fr F03 (fun b e k=>hqr ((hX b e).symm.trans k)) (fun b e k=>hq0 ((hX b e).symm.trans k))) cl2 wk2 ia (by rw[List.length_set,hl0];exact hkn.1) (by omega) (by omega) hkv0 (by rw[List.length_set];exact hik) (by rw[hset];exact hsa) (by rw[hset];exact hma) (fun j h1 h2=>by rw[List.getElem_set_ne (fun e=>h2 e.symm)];exact hkn.2 _ (List.getElem_mem _)) (by omega)).mono ?_
 rintro e w4 ⟨rfl,R4⟩
 obtain⟨c',gone',ta',e1,e2,e3,e4,e5,e6,e7,e8,e9,e10⟩:=zhe (m:=m) hq0 hqn hn0 hnn hnq hc hqf ag2 F03.size hs hl0 hik R4 hcn hnl hz hd acc hg2
 refine⟨rfl,F03.trans R4.fr (fun b hb e=>?_),c',gone',ta',e1,e2,e3,e4,e5,e6,e7,e8.trans hfl,e9⟩
 have h1:=ag2 b hb
 rcases e with e|e
 · exact h1.symm.trans e
 · exact absurd (h1.symm.trans e) (hqf b)
theorem zhm {c:Nat→Nat} {r rn q:Nat} {w:World} {tp st wp:Nat} {S:SSt} {D:DSt} {d m:Nat} {t:T} {v kv:Value} {gone:List Nat} {key:List UInt8} (hq0:q≠0) (hqr:q≠r) (hqn:q≠rn) (hr0:rn≠0) (ih:TakeIH r rn q st tp wp S D kv key (d+1)) (hh:Hd c r w tp st S D) (hc:Cl w c) (hw:WorkAt c q w wp tp gone) (hr:Rep c rn w (pgs D) D.blocks False (d+1+1) t v) (hs:Shape (d+1+1) m t) (hm:1≤m) (hso:Sorted (flat (d+1+1) t)) (hg:getL key (flat (d+1+1) t)≠none) (hk:BytesAt (Dt c) w kv key) (hgl:gone.length+2*(d+1+1)≤1000000) :
 Calls Tryz.prog 146 #[.pointer (some ⟨wp,0,none⟩),v,kv] w (TakeEnd c rn q w (pgs D) D.blocks (d+1+1) m t (delL key (flat (d+1+1) t)) wp tp gone):=by
 have HCP:=zhd (zh7 hq0 hqr hqn hh hc hw hr hs hm (by omega) (by omega))
 obtain⟨tx,y,rfl⟩:=hr.iface
 obtain⟨kA,kc0,rfl,-⟩:=hk.form
 have hsf:=zgt hs
 have hkn:=hsf.2.2.2.2.1 (by omega)
 have HKS:=zhd hkn.2
 have hkl:=hkn.1
 have hz:∀b o,w.heap.size≤b→sumN (t.ks.map (cnt (d+1) (.cl b o)))=0:=fun b o hb=>by
  have h1:=Rep.cl0 (o:=o) hb hr
  have h2:=zb4 (d+1) b o t
  omega
 have HZ:=zhd hz
 have HDL:=zhd (zb6 hr)
 have HH:=zhd hh
 have HC:=zhd hc
 have HS:=zhd hs
 have HK:=zhd hk
 have HKV:=zhd hsf.2.2.1
 have hfl:flat (d+1+1) t=inter t.l (t.ks.map (flat (d+1))):=by rw[zgu,if_neg (by omega)]
 rw[hfl] at hso hg⊢
 have HND:=zhd (zff (by simpa using hkl) hso hg)
 have hl1:1≤t.l.length:=by omega
 have hl4:t.l.length≤4:=by omega
 clear hh hc hw hr hs hso hg hk hsf hkn hz hfl
 go_enter Tryz.func146,Tryz.ntmps146
 go_wp2_with fail
 refine HCP.out.mono ?_
 rintro e w1 ⟨f1,n,rfl,hn,qn,c1,hn0,hnq,hnr,hnn,hqf,ag1,cl1,wk1,io⟩
 obtain⟨L0,lc,G,kc,xs,kvs,ia⟩:=io.at (by omega) (by omega)
 have hs1:=f1.size
 have HX:=zhd (fun (cc:Nat→Nat) (ha:Ag w.heap.size c cc) (b:Nat) (e:c b=q)=>show cc b=q from by
  by_cases hl:b<w.heap.size
  · exact(ha b hl).trans e
  · exact absurd ((HC.out b (by omega)).symm.trans e) (fun k=>hq0 k.symm))
 have hkvl:=All2.length ia.kids
 have m1:=z2k ia.blk 1 rfl
 have HFI:=zhd (z84 (ItemsAt.ofCells (F:=fun _=>True) (Row.ofOwn ia.row (fun _ _=>trivial)) (ia.cells.mono (fun _ _ _=>trivial))) ((HK.out.fr f1 (fun b h e=>hq0 (e.symm.trans h))).mono (F':=fun _=>True) (fun _ _ _=>trivial)))
 have F1:=zhd f1
 have AG1:=zhd ag1
 have CL1:=zhd cl1
 have WK1:=zhd wk1
 have HQF:=zhd hqf
 have IA:=zhd ia
 generalize hfk:findL key t.l=fk at *
 obtain⟨i,there⟩:=fk
 obtain⟨hil,hsk,hcase⟩:=HND.out
 have hik:i<t.ks.length:=by simpa using hil
 have hi2:i<kvs.length:=by omega
 have hrk:=All2.at_ i hik hi2 ia.kids
 obtain⟨tx1,y1,hkiv⟩:=hrk.iface
 have HRK:=zhd hrk
 have HKIV:=zhd hkiv
 have HSI:=zhd (HKS.out t.ks[i] (List.getElem_mem _))
 have hfe:(t.ks.map (flat (d+1)))[i]'(by simpa using hik)=flat (d+1) t.ks[i]:=List.getElem_map ..
 have hsk':Sorted (flat (d+1) t.ks[i]):=by rw[←hfe];exact hsk
 have HSK:=zhd hsk'
 have HCASE:=zhd hcase
 have HFE:=zhd hfe
 clear f1 ag1 cl1 wk1 hqf ia io hfk HND HCP hsk hcase hrk hkiv hfe hsk'
 go_wp2_with fail
 refine(z64 n _ _ m1).mono ?_
 rintro e w5 ⟨rfl,rfl⟩
 go_wp2_with fail
 refine HFI.out.mono ?_
 rintro e w2 ⟨rfl,f2⟩
 have hs2:=f2.size
 have F2:=zhd f2
 have IA2:=zhd (IA.out.fr0 f2)
 have CL2:=zhd (CL1.out.mono f2.size)
 have F02:=zhd (F1.out.trans0 f2)
 have HD2:=zhd ((HH.out.ag AG1.out).fr F02.out (fun b e k=>hqr ((HX.out c1 AG1.out b e).symm.trans k)) (fun b e k=>hq0 ((HX.out c1 AG1.out b e).symm.trans k)))
 have m12:=z2k IA2.out.blk 1 rfl
 have m22:=z2k IA2.out.blk 2 rfl
 have g0:=IA2.out.krow.cells (g:=G) rfl i _ (List.getElem?_eq_getElem hi2)
 rw[add0,HKIV.out] at g0
 have HRK2:=zhd (HRK.out.fr0 f2)
 rw[HKIV.out] at HRK2
 have hii:(i:Int)<(kvs.length:Int):=by omega
 have hlt:=IA2.out.lt
 clear f2 m1 HFI
 cases there with
 | true =>
   have hcase:=HCASE.out
   simp only[if_true] at hcase
   rw[HFE.out] at hcase
   obtain⟨Lk,xk,hLk⟩:∃Lk xk,flat (d+1) t.ks[i]=Lk++[xk]:=⟨_,_,(List.dropLast_concat_getLast (zhc (by omega) HSI.out)).symm⟩
   have hxk:KVok xk:=zeu HSI.out xk (by rw[hLk];simp)
   have HLC:=zhd (zhi hq0 hqr hqn hr0 (d+1) HD2.out CL2.out (WK1.out.fr0 F2.out) HRK2.out HSI.out (by omega) hLk (by rw[List.length_append];have:=zay t;omega))
   have hil:=hcase.1
   have HCS:=zhd (hcase.2 Lk xk hLk.symm)
   have HXK:=zhd hxk
   clear hcase hxk hLk
   go_wp2_with fail
   refine HLC.out.mono ?_
   rintro e w3 ⟨tx3,y3,kA3,kn3,kc3,vA3,vn3,vc3,rfl,R3⟩
   have hs3:=R3.fr.size
   obtain⟨c2,gone2,ta,ag2,cl2,wk2,hg2,hra,hma,hsa,hfa,bk,bv,acc⟩:=R3.ex
   have hc12:∀b,c1 b=q→c2 b=q:=fun b e=>by
    by_cases hl:b<w2.heap.size
    · exact(ag2 b hl).trans e
    · exact absurd ((CL2.out b (by omega)).symm.trans e) (fun k=>hq0 k.symm)
   have IA3:=zhd ((IA2.out.ag ag2).fr R3.fr (fun b e=>by rw[hc12 b e];exact⟨fun k=>hnq k.symm,hqn,hq0⟩))
   have F03:Hid (Fr (fun b=>c b=q) w w3):=zhd (F02.out.trans R3.fr (fun b hb e=>(AG1.out b hb).symm.trans e))
   have AG2:Hid (Ag w.heap.size c c2):=zhd (fun b hb=>(ag2 b (by omega)).trans (AG1.out b hb))
   have R3':=zhd (And.intro cl2 (And.intro wk2 (And.intro hg2 (And.intro hra (And.intro hma (And.intro hsa (And.intro hfa (And.intro bk (And.intro bv (acc.low (n0:=w.heap.size) (by omega) (fun b o hb=>by have h1:=HZ.out b o hb;have h5:=z75 (List.mem_map_of_mem (f:=cnt (d+1) (.cl b o)) (List.getElem_mem hik));omega)))))))))))
   clear R3 ag2 cl2 wk2 hg2 hra hma hsa hfa bk bv acc hc12 HLC g0 m12 m22
   go_upto_region 10 with fail
   have F3a:=(Fr.refl C0 w3).alloc (.cells #[.slice kA3 kn3 kc3,.slice vA3 vn3 vc3] 200)
   have h14:=heap_alloc_new w3 (.cells #[.slice kA3 kn3 kc3,.slice vA3 vn3 vc3] 200)
   generalize w3.alloc (.cells #[.slice kA3 kn3 kc3,.slice vA3 vn3 vc3] 200)=w3a at *
   have H3A:=zhd F3a
   have IA3a:=zhd (IA3.out.fr0 F3a)
   have hs3a:=F3a.size
   have m13:=z2k IA3a.out.blk 1 rfl
   have m23:=z2k IA3a.out.blk 2 rfl
   have g3:=IA3a.out.krow.cells (g:=G) rfl i _ (List.getElem?_eq_getElem hi2)
   rw[add0] at g3
   have hxl:=IA3a.out.row.1
   have hi3:i*2<xs.length:=by omega
   have hi4:i*2+1<xs.length:=by omega
   have l0:=IA3a.out.row.cells (g:=L0) rfl (i*2) _ (List.getElem?_eq_getElem hi3)
   have l1:=IA3a.out.row.cells (g:=L0) rfl (i*2+1) _ (List.getElem?_eq_getElem hi4)
   rw[add0] at l0 l1
   obtain⟨curG,hgG⟩:=z4y IA3a.out.krow (b:=G) rfl
   obtain⟨curL,hgL⟩:=z4y IA3a.out.row (b:=L0) rfl
   have zG:=z2i i hgG
   have zL0:=z2i (i*2) hgL
   have zL1:=z2i (i*2+1) hgL
   have x0:=z2k h14 0 rfl
   have x1:=z2k h14 1 rfl
   have hGL:¬G=L0:=IA3a.out.cg.2.2
   have hLG:¬L0=G:=fun e=>hGL e.symm
   have hnGL:¬(n=G∨n=L0):=fun e=>e.elim (fun e=>IA3a.out.cg.2.1 e.symm) (fun e=>IA3a.out.cl.2 e.symm)
   have h14n:¬(w3.heap.size=G∨w3.heap.size=L0):=by omega
   have hill:(i:Int)<(t.l.length:Int):=by omega
   clear hgG hgL F3a h14
   go_wp2_with fail
   refine z1z (Fr (fun b=>b=G∨b=L0) w3a) [15] (by kernel_rfl) ?_
   have hSw0:(Fr (fun b=>b=G∨b=L0) w3a) _:=(Fr.refl _ w3a).drew
   refine tk 0 hSw0 ?_
   refine tk 1 hSw0 ?_
   refine tk 2 hSw0 ?_
   refine tk 3 hSw0 ?_ (hy:=by intro w_ hS_;have e0:=hS_.cell m13 hnGL;have e1:=hS_.cell m23 hnGL;have e2:=hS_.cell x0 h14n;have e3:=hS_.cell x1 h14n;first|(go_simp;done)|(go_simp;with_reducible rfl))
   refine tk 4 hSw0 ?_
   refine tk 5 hSw0 ?_
   refine tk 6 hSw0 ?_
   refine tk 7 hSw0 ?_
   refine tk 8 hSw0 ?_ (hy:=by intro w_ hS_;have e0:=hS_.cell m13 hnGL;have e1:=hS_.cell m23 hnGL;have e2:=hS_.cell x0 h14n;have e3:=hS_.cell x1 h14n;first|(go_simp;done)|(go_simp;with_reducible rfl))
   refine tk 9 hSw0 ?_
   refine tk 10 hSw0 ?_
   refine tk 11 hSw0 ?_ (hy:=by intro w_ hS_;have e0:=hS_.cell m13 hnGL;have e1:=hS_.cell m23 hnGL;have e2:=hS_.cell x0 h14n;have e3:=hS_.cell x1 h14n;first|(go_simp;done)|(go_simp;with_reducible rfl))
   refine tk 12 hSw0 ?_
   refine one_ 13 rfl (fun K hK=>?_)
   go_simp
   refine hK.out _ _ ?kS1 (fun hSw1=>?kR1)
   case kS1=>exact((Fr.refl (fun b=>b=G∨b=L0) w3a).setCell (p:=⟨G,i,none⟩) (.inr (.inl rfl)) _).drew
   clear hK K
   try simp only[Act.put,zs1,zs2,zs3]
   refine tk 14 hSw1 ?_
   refine z1v 15 rfl (fun K hK=>?_)
   go_simp
   refine hK.out _ _ ?_;clear hK K
   try simp only[Act.put,zs1,zs2,zs3]
   refine z1y (by kernel_rfl) ?_ _
   have F4:=(((Fr.refl (fun b=>b=G∨b=L0) w3a).setCell (p:=⟨G,i,none⟩) (.inr (.inl rfl)) (.iface tx3 y3)).setCell (p:=⟨L0,i*2,none⟩) (.inr (.inr rfl)) (.slice kA3 kn3 kc3)).setCell (p:=⟨L0,i*2+1,none⟩) (.inr (.inr rfl)) (.slice vA3 vn3 vc3) |>.drew
   have ok4:=z0m (z0m (z8l (u:=.iface tx3 y3) (j:=i) IA3a.out.krow (by omega)) (((Fr.refl (fun b=>b=L0) _).setCell (p:=⟨L0,i*2,none⟩) (.inr rfl) (.slice kA3 kn3 kc3)).setCell (p:=⟨L0,i*2+1,none⟩) (.inr rfl) (.slice vA3 vn3 vc3)) (fun b e h=>by simp[Value.ownBlock] at e;omega)) ((Fr.refl C0 _).drew) (fun _ _ h=>h)
   have ol4:=z0m (z8l (u:=.slice vA3 vn3 vc3) (j:=i*2+1) (z8l (u:=.slice kA3 kn3 kc3) (j:=i*2) (z0m IA3a.out.row ((Fr.refl (fun b=>b=G) _).setCell (p:=⟨G,i,none⟩) (.inr rfl) (.iface tx3 y3)) (fun b e h=>by simp[Value.ownBlock] at e;omega)) (by omega)) (by simp;omega)) ((Fr.refl C0 _).drew) (fun _ _ h=>h)
   obtain⟨cl2,wk2,hg2,hra,hma,hsa,hfa,bk,bv,acc⟩:=R3'.out
   have IA4:=zhd (IA3a.out.setBoth (x:=xk) hn0 hnn hi2 (hra.fr0 H3A.out) (bk.fr0 H3A.out) (bv.fr0 H3A.out) F4 ok4 ol4)
   have hq4:∀b,(b=G∨b=L0)→c2 b=qn:=fun b e=>by
    rcases e with rfl|rfl
    · exact IA3a.out.cg.1
    · exact IA3a.out.cl.1
   have HM:=zhd (zhl (L:=delL key (inter t.l (t.ks.map (flat (d+1))))) (m:=m) hq0 hqr hqn hr0 hn0 hnr hnn hnq HH.out HC.out HQF.out AG2.out ((F03.out.trans0 H3A.out).trans F4 (fun b hb e=>absurd ((AG2.out b hb).symm.trans (hq4 b e)) (HQF.out b))) (cl2.mono (by have:=F4.size;omega)) ((wk2.fr0 H3A.out).fr F4 (fun b e k=>hnq ((hq4 b e).symm.trans k))) IA4.out.open_ (by rw[List.length_set]) (fun z hz=>(List.mem_or_eq_of_mem_set hz).elim (HKV.out z) (fun e=>e▸HXK.out)) HS.out hm hik hsa hma HZ.out HDL.out acc (by have:=zay t;rw[List.length_append] at hg2;omega) hgl (by rw[List.map_set,hfa];exact HCS.out))
   clear F4 ok4 ol4 cl2 wk2 hg2 hra hma hsa hfa bk bv acc hq4 m13 m23 g3 l0 l1 zG zL0 zL1 x0 x1
   go_wp2_with fail
   refine HM.out.mono ?_
   rintro e w5 ⟨rfl,R5⟩
   go_wp2
   go_ret
   exact⟨_,_,rfl,R5⟩
 | false =>
   have hcase:=HCASE.out
   simp only[Bool.false_eq_true,if_false] at hcase
   rw[HFE.out] at hcase
   have HIH:=zhd (fun (w_:World) (hf:Fr C0 w2 w_)=>ih (HD2.out.fr0 hf) (CL2.out.mono hf.size) ((WK1.out.fr0 F2.out).fr0 hf) (HRK2.out.fr0 hf) HSI.out (by omega) HSK.out hcase.1 ((((HK.out.mono (F':=fun b=>c b=0∧b<w.heap.size) (fun b h hl=>⟨h,hl⟩)).fr F02.out (fun b h e=>hq0 (e.symm.trans h.1))).mono (F':=Dt c1) (fun b h _=>(AG1.out b h.2).trans h.1)).fr0 hf) (by rw[List.length_append];have:=zay t;omega))
   have HCS:=zhd hcase.2
   have hcq:∀b,c1 b=q→¬b=n:=fun b e k=>hnq (by rw[←IA2.out.cn,←k];exact e)
   have hnq':¬c1 n=q:=fun e=>hcq n e rfl
   have hgq':¬c1 G=q:=fun e=>hnq (by rw[←IA2.out.cg.1];exact e)
   clear hcase hcq m12
   go_wp2_with fail
   refine z1z (Fr (fun b=>c1 b=q) w2) [16] (by kernel_rfl) ?_
   have hSw0:(Fr (fun b=>c1 b=q) w2) _:=(Fr.refl _ w2).drew
   refine tk 0 hSw0 ?_
   refine tk 1 hSw0 ?_
   refine tk 2 hSw0 ?_
   refine tk 3 hSw0 ?_ (hy:=by intro w_ hS_;have e0:=hS_.cell m22 hnq';have e1:=hS_.cell g0 hgq';first|(go_simp;done)|(go_simp;with_reducible rfl))
   refine tk 4 hSw0 ?_
   refine tk 5 hSw0 ?_
   refine tk 6 hSw0 ?_
   refine tk 7 hSw0 ?_
   refine tk 8 hSw0 ?_
   refine tk 9 hSw0 ?_ (hy:=by intro w_ hS_;have e0:=hS_.cell m22 hnq';have e1:=hS_.cell g0 hgq';first|(go_simp;done)|(go_simp;with_reducible rfl))
   refine tk 10 hSw0 ?_
   refine tk 11 hSw0 ?_
   refine tk 12 hSw0 ?_ (hy:=by intro w_ hS_;have e0:=hS_.cell m22 hnq';have e1:=hS_.cell g0 hgq';first|(go_simp;done)|(go_simp;with_reducible rfl))
   refine tk 13 hSw0 ?_
   refine one_ 14 rfl (fun K hK=>?_)
   go_simp
   refine(HIH.out _ ((Fr.refl C0 w2).drew)).mono ?_
   rintro e w3 ⟨tx3,y3,rfl,R3⟩
   simp only[]
   have R3a:TakeRes c1 rn q w2 (pgs D) D.blocks (d+1) 2 t.ks[i] (delL key (flat (d+1) t.ks[i])) wp tp (gone++goneOf t) tx3 y3 w3:=⟨(Fr.refl _ w2).drew.trans R3.fr (fun _ _ h=>h),R3.ex⟩
   have hs3:=R3a.fr.size
   obtain⟨c2,gone2,ta,ag2,cl2,wk2,hg2,hra,hma,hsa,hfa,acc⟩:=R3a.ex
   have hc12:∀b,c1 b=q→c2 b=q:=fun b e=>by
    by_cases hl:b<w2.heap.size
    · exact(ag2 b hl).trans e
    · exact absurd ((CL2.out b (by omega)).symm.trans e) (fun k=>hq0 k.symm)
   have IA3:=zhd ((IA2.out.ag ag2).fr R3a.fr (fun b e=>by rw[hc12 b e];exact⟨fun k=>hnq k.symm,hqn,hq0⟩))
   have FQ3:=zhd R3a.fr
   have F03:Hid (Fr (fun b=>c b=q) w w3):=zhd (F02.out.trans R3a.fr (fun b hb e=>(AG1.out b hb).symm.trans e))
   have AG2:Hid (Ag w.heap.size c c2):=zhd (fun b hb=>(ag2 b (by omega)).trans (AG1.out b hb))
   have R3':=zhd (And.intro cl2 (And.intro wk2 (And.intro hg2 (And.intro hra (And.intro hma (And.intro hsa (And.intro hfa (acc.low (n0:=w.heap.size) (by omega) (fun b o hb=>by have h1:=HZ.out b o hb;have h5:=z75 (List.mem_map_of_mem (f:=cnt (d+1) (.cl b o)) (List.getElem_mem hik));omega)))))))))
   have g3:=IA3.out.krow.cells (g:=G) rfl i _ (List.getElem?_eq_getElem hi2)
   rw[add0] at g3
   obtain⟨curG,hgG⟩:=z4y IA3.out.krow (b:=G) rfl
   have zG:=z2i i hgG
   clear R3 R3a ag2 cl2 wk2 hg2 hra hma hsa hfa acc hc12 hgG
   refine hK.out _ _ ?kS2 (fun hSw1=>?kR2)
   case kS2=>exact FQ3.out
   clear hK K
   try simp only[Act.put,zs1,zs2,zs3]
   refine tk 15 hSw1 ?_
   refine z1v 16 rfl (fun K hK=>?_)
   go_simp
   refine hK.out _ _ ?_;clear hK K
   try simp only[Act.put,zs1,zs2,zs3]
   refine z1y (by kernel_rfl) ?_ _
   obtain⟨cl2,wk2,hg2,hra,hma,hsa,hfa,acc⟩:=R3'.out
   have F4:=(Fr.refl (fun b=>b=G) w3).setCell (p:=⟨G,i,none⟩) (.inr rfl) (.iface tx3 y3)
   have IA4:=zhd (IA3.out.setKid hn0 hnn hi2 hra F4 (zhg IA3.out hi2))
   have hcG:c2 G=qn:=IA3.out.cg.1
   have HM:=zhd (zhl (L:=delL key (inter t.l (t.ks.map (flat (d+1))))) (m:=m) hq0 hqr hqn hr0 hn0 hnr hnn hnq HH.out HC.out HQF.out AG2.out (F03.out.trans F4 (fun b hb e=>absurd ((AG2.out b hb).symm.trans (by rw[e];exact hcG)) (HQF.out b))) (cl2.mono F4.size) (wk2.fr F4 (fun b e k=>hnq (by rw[←hcG,←e];exact k))) IA4.out.open_ rfl HKV.out HS.out hm hik hsa hma HZ.out HDL.out acc (by have:=zay t;rw[List.length_append] at hg2;omega) hgl (by rw[List.map_set];exact HCS.out _ hfa))
   clear F4 cl2 wk2 hg2 hra hma hsa hfa acc g3 zG
   go_wp2_with fail
   refine HM.out.mono ?_
   rintro e w5 ⟨rfl,R5⟩
   go_wp2
   go_ret
   exact⟨_,_,rfl,R5⟩
theorem zhn {r rn q st tp wp:Nat} {S:SSt} {D:DSt} {kv:Value} {key:List UInt8} (hq0:q≠0) (hqr:q≠r) (hqn:q≠rn) (hr0:rn≠0) (d:Nat):TakeIH r rn q st tp wp S D kv key d:=by
 induction d with
 |zero=>intro m c w t v gone hh hc hw hr;exact hr.elim
 | succ d ih =>
   intro m c w t v gone hh hc hw hr hs hm hso hg hk hgl
   cases d with
   |zero=>exact zhk hq0 hqr hqn hr0 hh hc hw hr hs hm hso hg hk (by omega)
   |succ d=>exact zhm hq0 hqr hqn hr0 ih hh hc hw hr hs hm hso hg hk hgl
end
section
set_option maxHeartbeats 2000000
structure RAccD (n0:Nat) (o o':Root) (gone gone':List Nat):Prop where
 pg:∀id,rcnt (.pg id) o'+gone'.count id=rcnt (.pg id) o+gone.count id
 cl:∀b j,rcnt (.cl b j) o'≤if b<n0 then rcnt (.cl b j) o else 1
 dirty:rootDirty o'≤rootDirty o+2*rootD o
def TDelRes (c:Nat→Nat) (r rn:Nat) (w:World) (tp st lm km:Nat) (S:SSt) (D:DSt) (o:Root) (lr ov:Value) (ls ld:Int) (gone:List Nat) (L:List KV) (i:Int) (w':World):Prop:=
 ∃ o' gone', rootL o' = L ∧ RootSh o' ∧ RAccD w.heap.size o o' gone gone' ∧
   ((i = 21 ∧ S.pages - S.state.length < rootDirty o' ∧ Fr C0 w w') ∨
    (i = 0 ∧ rootDirty o' ≤ S.pages - S.state.length ∧ Fr (fun b => c b = r) w w' ∧ ∃ gv' rv' c', Ag w.heap.size c c' ∧ Cl w' c' ∧ Hd c' r w' tp st S D ∧
     w'.heap[tp]?=some (.cells (TreeCells st rv' ((rootL o').length:Int) (rootD o':Int) lr ls ld lm gv' ov km) 139 (0,0))∧w'.ownsRow 0 3 1 gv' gone'.length (gone'.map natV)∧(∀b,gv'.ownBlock=some b→c' b=r)∧RootAt c' rn w' (pgs D) D.blocks False o' rv'))
theorem zho {n0 n1 d:Nat} {t ta:T} {o':Root} {gone gone2:List Nat} (h:Acc n1 d t [ta] [] gone2) (h01:n0≤n1) (hz:∀b j,n0≤b→cnt d (.cl b j) t=0) (hpg:∀id,rcnt (.pg id) o'=cnt d (.pg id) ta) (hcl:∀b j,rcnt (.cl b j) o'≤cnt d (.cl b j) ta) (hdi:rootDirty o'≤dirtyN d ta):RAccD n0 (some (d,t)) o' gone (gone++gone2):=by
 refine⟨fun id=>?_,fun b j=>?_,?_⟩
 · have h1:=h.pg id
   simp only[List.map_cons,List.map_nil,sumN,Nat.add_zero,List.count_nil] at h1
   rw[hpg]
   simp only[rcnt,List.count_append];omega
 · have h1:=h.cl b j
   have h2:=hz b j
   have h3:=hcl b j
   simp only[List.map_cons,List.map_nil,sumN,Nat.add_zero] at h1
   show _≤if b<n0 then cnt d (.cl b j) t else 1
   split at h1<;>split<;>first|omega|(have:=h2 (by omega);omega)
 · have h1:=h.dirty
   simp only[List.map_cons,List.map_nil,sumN,Nat.add_zero] at h1
   show _≤dirtyN d t+2*d
   omega
theorem zhp {c c1 c5:Nat→Nat} {r rn q3 e0 e1:Nat} {w w4 w5 w':World} {tp st lm km:Nat} {S:SSt} {D:DSt} {o o':Root} {lr gv gv' ov rv:Value} {ls ld:Int} {gone gone':List Nat} {L:List KV} {cs:Array Value} {n:Nat} {xs:List Value} (hr0:r≠0) (hrr:rn≠r) (hq0:q3≠0) (hqr:q3≠r) (hqn:q3≠rn) (hh:Hd c r w tp st S D) (ht:w.heap[tp]?=some (.cells cs 139 (0,0))) (hg:w.ownsRow 0 3 1 gv n xs) (hgo:∀b,gv.ownBlock=some b→c b=r) (hag:Ag w.heap.size c c1) (f4:Fr C0 w w4) (hr:RootAt c1 rn w4 (pgs D) D.blocks False o' rv)
 (h1:rootL o'=L) (h2:RootSh o') (h3:RAccD w.heap.size o o' gone gone') (h4:rootDirty o'≤S.pages-S.state.length) (f5:Fr (fun b=>b=tp∨gv.ownBlock=some b) w4 w5) (ag5:Ag w4.heap.size c1 c5) (cl5:Cl w5 c5)
 (ht5:w5.heap[tp]?=some (.cells (TreeCells st rv ((rootL o').length:Int) (rootD o':Int) lr ls ld lm gv' ov km) 139 (0,0))) (og5:w5.ownsRow 0 3 1 gv' gone'.length (gone'.map natV)) (oc5:∀b,gv'.ownBlock=some b→c5 b=r) (he1:w.heap.size≤e0∧w.heap.size≤e1) (he2:e0<w4.heap.size∧e1<w4.heap.size) (hce:c1 e0=q3∧c1 e1=q3) (fs:Fr (fun b=>b=e0∨b=e1) w5 w') :
 TDelRes c r rn w tp st lm km S D o lr ov ls ld gone L 0 w':=by
 have hce5:∀b,(b=e0∨b=e1)→c5 b=q3:=fun b e=>by
  rcases e with rfl|rfl
  · exact(ag5 _ he2.1).trans hce.1
  · exact(ag5 _ he2.2).trans hce.2
 have hs4:=f4.size
 have hs5:=f5.size
 have htl:=(Array.getElem?_eq_some_iff.1 ht).1
 have hct:=hh.own
 have hag5:Ag w.heap.size c c5:=Ag.trans hag ag5 hs4
 have hc1:∀b,(b=tp∨gv.ownBlock=some b)→c5 b=r∧c b=r∧b<w.heap.size:=fun b hb=>by
  rcases hb with rfl|hb
  · exact⟨(hag5 _ htl).trans hct,hct,htl⟩
  · have:=(hg.lt b hb).2;exact⟨(hag5 b this).trans (hgo b hb),hgo b hb,this⟩
 have r5:=((hr.ag ag5).fr f5 (fun b hb e=>hrr (e.symm.trans (hc1 b hb).1)) (fun b hb e=>hr0 ((hc1 b hb).1.symm.trans e))).fr fs (fun b hb e=>hqn ((hce5 b hb).symm.trans e)) (fun b hb e=>hq0 ((hce5 b hb).symm.trans e))
 have hap:Apart c5 r w4 (tp::ownL gv):=zcw (hc1 tp (.inl rfl)).1 (f4.blk ht (fun h=>h)) (z0m hg f4 (fun _ _ h=>h)) (fun b hb=>(hc1 b (.inr hb)).1)
 have s5:=((((hh.store.ag hag).fr f4 (fun _ h=>h.elim) (fun _ h=>h.elim)).ag ag5).apart hr0 hap (f5.mono fun b _ h=>by rcases h with rfl|h;exact List.mem_cons_self;exact List.mem_cons_of_mem _ (zcv.2 h))).fr fs (fun b hb e=>hqr ((hce5 b hb).symm.trans e)) (fun b hb e=>hq0 ((hce5 b hb).symm.trans e))
 have ht6:=fs.blk ht5 (fun e:tp=e0∨tp=e1=>by omega)
 exact⟨o',gone',h1,h2,h3,.inr ⟨rfl,h4,((f4.mono (fun _ _ h=>h.elim)).trans f5 (fun b hb h=>(hc1 b h).2.1)).trans fs (fun b hb e=>by omega),gv',rv,c5,hag5,cl5.mono fs.size,⟨z2k ht6 0 rfl,s5,hh.alive,(hc1 tp (.inl rfl)).1⟩,ht6,z0m og5 fs (fun b hb e=>hqr ((hce5 b e).symm.trans (oc5 b hb))),oc5,r5⟩⟩
theorem zhq {c c6:Nat→Nat} {r rn q q3 e0 e1 wp:Nat} {w w6:World} {tp st lm km:Nat} {S:SSt} {D:DSt} {o o':Root} {nr lr gv ov rv:Value} {ns nd ls ld sz dp:Int} {gone gone2:List Nat} {L:List KV} (hr0:r≠0) (hrr:rn≠r) (hq0:q3≠0) (hqr:q3≠r) (hqn:q3≠rn) (hqq:q≠r) (hh:Hd c r w tp st S D) (ht:w.heap[tp]?=some (.cells (TreeCells st nr ns nd lr ls ld lm gv ov km) 139 (0,0))) (hg:w.ownsRow 0 3 1 gv gone.length (gone.map natV)) (hgo:∀b,gv.ownBlock=some b→c b=r) (hag:Ag w.heap.size c c6) (hcl:Cl w6 c6) (f6:Fr C0 w w6) (hr:RootAt c6 rn w6 (pgs D) D.blocks False o' rv)
 (h1:rootL o'=L) (h3:RAccD w.heap.size o o' gone (gone++gone2)) (hb:rootDirty o'≤1000000) (hl:S.state.length≤S.pages) (hsz:sz=((rootL o').length:Int)) (hdp:dp=(rootD o':Int)) (he1:w.heap.size≤e0∧w.heap.size≤e1) (hbe0:w6.heap[e0]?=some (.cells #[.bool false] 4 (0,0))) (hbe1:w6.heap[e1]?=some (.cells #[.int .i64 0] 33 (0,0))) (hce:c6 e0=q3∧c6 e1=q3) (hwk:WorkAt c6 q w6 wp tp gone2) (hlen:gone.length+gone2.length≤1000000) :
 Calls Tryz.prog 147 #[.pointer (some ⟨tp,0,none⟩),.agg #[rv,.int .i64 sz,.int .i64 dp],.pointer (some ⟨wp,0,none⟩)] w6 fun e w7=>∃i:Int,(i=0∨i=21)∧e=.returned (.int .i64 i)∧Hid (w7.heap[e0]?=some (.cells #[.bool false] 4 (0,0))∧w7.heap[e1]?=some (.cells #[.int .i64 0] 33 (0,0))∧∀w',Fr (fun b=>b=e0∨b=e1) w7 w'→TDelRes c r rn w tp st lm km S D o lr ov ls ld gone L i w'):=by
 subst hsz hdp
 have hsh:RootSh o':=by cases o' with|none=>trivial|some p=>exact hr.2
 have hl0:=(Array.getElem?_eq_some_iff.1 hbe0).1
 have hl1:=(Array.getElem?_eq_some_iff.1 hbe1).1
 by_cases hfull:S.pages-S.state.length<rootDirty o'
 · refine(zaf ((hh.ag hag).fr0 f6) hr hb hl hfull).mono ?_
   rintro e w7 ⟨rfl,f7⟩
   exact⟨21,.inr rfl,rfl,zhd ⟨f7.blk hbe0 (fun h=>h),f7.blk hbe1 (fun h=>h),fun w' fs=>⟨o',gone++gone2,h1,hsh,h3,.inl ⟨rfl,hfull,(f6.trans0 f7).trans fs (fun b hb e=>by omega)⟩⟩⟩⟩
 · refine(zag ((hh.ag hag).fr0 f6) hcl hr hb hl (by omega) (f6.blk ht (fun h=>h)) (z0m hg f6 (fun _ _ h=>h)) (fun b hb=>(hag b (hg.lt b hb).2).trans (hgo b hb)) hr0 hqq hwk hlen).mono ?_
   rintro e w7 ⟨rfl,f7,gv7,c7,ag7,cl7,ht7,og7,oc7⟩
   have hno:∀e,w.heap.size≤e→¬(e=tp∨gv.ownBlock=some e):=fun e he h=>by
    rcases h with h|h
    · have:=(Array.getElem?_eq_some_iff.1 ht).1;omega
    · have:=(hg.lt _ h).2;omega
   exact⟨0,.inl rfl,rfl,zhd ⟨f7.blk hbe0 (hno _ he1.1),f7.blk hbe1 (hno _ he1.2),fun w' fs=>zhp hr0 hrr hq0 hqr hqn hh ht hg hgo hag f6 hr h1 hsh h3 (by omega) f7 ag7 cl7 ht7 og7 oc7 he1 ⟨hl0,hl1⟩ hce fs⟩⟩
theorem zhr {u:FrameMode} (a b:Nat) (x:Bool) (y:Int) (w:World) (ha:w.cell? ⟨a,0,none⟩=some (.bool x)) (hb:w.cell? ⟨b,0,none⟩=some (.int .i64 y)) (hz:w.frozen? ⟨a,0,none⟩=false) :
 CallsD Tryz.prog 145 #[.pointer (some ⟨a,0,none⟩),.pointer (some ⟨b,0,none⟩)] u w fun e u' w'=>u'=u∧e=.returned (.tuple #[])∧w'=w.setCell ⟨a,0,none⟩ (.bool (x && (y == 0))):=by
 cases x with
 | false =>
   go_enter_d Tryz.func145,Tryz.ntmps145
   go_wp2
   go_end0
   exact⟨rfl,by simp⟩
 | true =>
   go_enter_d Tryz.func145,Tryz.ntmps145
   go_wp2
   go_end0
   exact⟨rfl,by simp⟩
end
end Go.Proofs.YtidalepbkljkpaaGreat
