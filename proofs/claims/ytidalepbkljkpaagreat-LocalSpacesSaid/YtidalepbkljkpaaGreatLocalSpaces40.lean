import Derived.Test.YtidalepbkljkpaaGreatLocalSpaces39
set_option linter.all false
namespace Go.Proofs.YtidalepbkljkpaaGreat
open Go.RowKit Go.H
set_option maxHeartbeats 4000000
set_option maxRecDepth 100000
section
def LastIH (r rn q st tp wp:Nat) (S:SSt) (D:DSt) (d:Nat):Prop:=∀{m:Nat} {c:Nat→Nat} {w:World} {t:T} {v:Value} {gone:List Nat} {L:List KV} {x:KV},Hd c r w tp st S D→Cl w c→WorkAt c q w wp tp gone→Rep c rn w (pgs D) D.blocks False d t v→Shape d m t→1≤m→flat d t=L++[x]→gone.length+2*d≤1000000→
 Calls Tryz.prog 162 #[.pointer (some ⟨wp,0,none⟩),v] w (LastEnd c rn q w (pgs D) D.blocks d m t L x wp tp gone)
theorem zhh {c:Nat→Nat} {r rn q:Nat} {w:World} {tp st wp:Nat} {S:SSt} {D:DSt} {d m:Nat} {t:T} {v:Value} {gone:List Nat} {L:List KV} {x:KV} (hq0:q≠0) (hqr:q≠r) (hqn:q≠rn) (hr0:rn≠0) (ih:LastIH r rn q st tp wp S D (d+1)) (hh:Hd c r w tp st S D) (hc:Cl w c) (hw:WorkAt c q w wp tp gone) (hr:Rep c rn w (pgs D) D.blocks False (d+1+1) t v) (hs:Shape (d+1+1) m t) (hm:1≤m) (hfl:flat (d+1+1) t=L++[x]) (hgl:gone.length+2*(d+1+1)≤1000000) :
 Calls Tryz.prog 162 #[.pointer (some ⟨wp,0,none⟩),v] w (LastEnd c rn q w (pgs D) D.blocks (d+1+1) m t L x wp tp gone):=by
 obtain⟨q2,hq2,hq20,hq2r,hq2n⟩:∃q2,q2≠q∧q2≠0∧q2≠r∧q2≠rn:=⟨q+r+rn+1,by omega,by omega,by omega,by omega⟩
 have hag0:Ag w.heap.size c (ownN c [w.heap.size] q2):=z8o (Ag.refl _ _) (fun b hb=>by simp at hb;omega)
 have F0:=zhd ((Fr.refl C0 w).alloc (.cells #[.slice none 0 0,.slice none 0 0] 200))
 have hsz:(w.alloc (.cells #[.slice none 0 0,.slice none 0 0] 200)).heap.size=w.heap.size+1:=by simp
 have HCP:=zhd (zh7 hq0 hqr hqn ((hh.ag hag0).fr0 F0.out) (z8p (hc.mono (by omega)) (fun b hb=>by simp at hb;omega)) ((hw.ag hag0).fr0 F0.out) ((Rep.ag hag0 hr).fr0 F0.out) hs hm (by omega) (by omega))
 have HU:Hid (ownN c [w.heap.size] q2 w.heap.size=q2):=zhd (z8m (by simp))
 have HAG0:=zhd hag0
 have hbu:=heap_alloc_new w (.cells #[.slice none 0 0,.slice none 0 0] 200)
 have HBU:=zhd hbu
 have HSZ:=zhd hsz
 obtain⟨tx,y,rfl⟩:=hr.iface
 have hsf:=zgt hs
 have hkn:=hsf.2.2.2.2.1 (by omega)
 have HKS:=zhd hkn.2
 have hkl:=hkn.1
 have hz:∀b o,w.heap.size≤b→sumN (t.ks.map (cnt (d+1) (.cl b o)))=0:=fun b o hb=>by
  have h1:=Rep.cl0 (o:=o) hb hr
  have h2:=zb4 (d+1) b o t
  omega
 have HZ:=zhd hz
 have HDL:=zhd (zb6 hr)
 have HH:=zhd hh
 have HC:=zhd hc
 have HS:=zhd hs
 obtain⟨i,hi⟩:∃i,t.l.length=i:=⟨_,rfl⟩
 have hi1:1≤i:=by omega
 have hi4:i≤4:=by omega
 have hik:i<t.ks.length:=by omega
 have hsi:=hkn.2 t.ks[i] (List.getElem_mem _)
 obtain⟨Lk,xk,hLk⟩:∃Lk xk,flat (d+1) t.ks[i]=Lk++[xk]:=⟨_,_,(List.dropLast_concat_getLast (zhc (by omega) hsi)).symm⟩
 have hfin:inter t.l ((t.ks.map (flat (d+1))).set i Lk)++[xk]=L++[x]:=by
  rw[←hfl,zgu,if_neg (by omega),←hi]
  exact zfg (by simpa using hkl) (by rw[List.getElem_map];simp only[hi];exact hLk.symm)
 obtain⟨hfL,hfx⟩:=List.append_inj' hfin rfl
 injection hfx with hfx _
 subst hfx
 have HFL:=zhd hfL
 have HLK:=zhd hLk
 have HSI:=zhd hsi
 have HI:=zhd hi
 clear hh hc hw hr hs hag0 hbu hsz hsf hkn hz hfin hfL hLk hsi hfl
 go_enter Tryz.func162,Tryz.ntmps162
 go_wp2_with fail
 refine HCP.out.mono ?_
 rintro e w1 ⟨f1,n,rfl,hn,qn,c1,hn0,hnq,hnr,hnn,hqf,ag1,cl1,wk1,io⟩
 obtain⟨L0,lc,G,kc,xs,kvs,ia⟩:=io.at (by omega) (by omega)
 have hs1:=f1.size
 rw[HSZ.out] at hs1 hn
 have F1:Hid (Fr (fun b=>c b=q) w w1):=zhd ((F0.out.mono (fun _ _ h=>h.elim)).trans f1 (fun b hb e=>by rw[←HAG0.out b hb];exact e))
 have AG1:Hid (Ag w.heap.size c c1):=zhd (fun b hb=>(ag1 b (by rw[HSZ.out];omega)).trans (HAG0.out b hb))
 have HX:=zhd (fun (cc:Nat→Nat) (ha:Ag w.heap.size c cc) (b:Nat) (e:c b=q)=>show cc b=q from by
  by_cases hl:b<w.heap.size
  · exact(ha b hl).trans e
  · exact absurd ((HC.out b (by omega)).symm.trans e) (fun k=>hq0 k.symm))
 have hcu1:c1 w.heap.size=q2:=(ag1 _ (by rw[HSZ.out];omega)).trans HU.out
 have hqf':∀b,c b≠qn:=fun b e=>by
  by_cases hl:b<w.heap.size
  · exact hqf b ((HAG0.out b hl).trans e)
  · exact hn0 (e.symm.trans (HC.out b (by omega)))
 have hq2qn:q2≠qn:=fun e=>hqf w.heap.size (HU.out.trans e)
 have hbu1:=f1.blk HBU.out (fun e=>hq2 (by rw[←HU.out];exact e))
 have hkvl:=All2.length ia.kids
 have hkv:kvs.length=i+1:=by have:=HI.out;omega
 have hi2:i<kvs.length:=by omega
 have hrk:=All2.at_ i hik hi2 ia.kids
 have HIH:=zhd (ih (((HH.out.ag AG1.out).fr F1.out (fun b e k=>hqr ((HX.out c1 AG1.out b e).symm.trans k)) (fun b e k=>hq0 ((HX.out c1 AG1.out b e).symm.trans k)))) cl1 wk1 hrk HSI.out (by omega) HLK.out (by rw[List.length_append];have:=zay t;omega))
 obtain⟨tx1,y1,hkiv⟩:=hrk.iface
 have m1:=z2k ia.blk 1 rfl
 have m2:=z2k ia.blk 2 rfl
 have g0:=ia.krow.cells (g:=G) rfl i _ (List.getElem?_eq_getElem hi2)
 rw[add0] at g0
 rw[hkiv] at g0 HIH
 rw[hkv] at m2
 have hwi:IntKind.i64.wrap (i:Int)=(i:Int):=z0t _ (by omega) (by omega)
 have hii:(i:Int)<(i:Int)+1:=by omega
 have IA:=zhd ia
 have CL1:=zhd cl1
 have HBU1:=zhd hbu1
 have HQF:=zhd hqf'
 have HCU1:=zhd hcu1
 have HKV:=zhd hkv
 have hlt:=ia.lt
 clear f1 hqf ag1 cl1 wk1 io ia hbu1 hcu1 hqf' hrk hkiv hkv HCP
 go_wp2_with fail
 refine HIH.out.mono ?_
 rintro e w2 ⟨tx2,y2,kA,kn,kc2,vA,vn,vc,rfl,R2⟩
 have hs2:=R2.fr.size
 obtain⟨c2,gone2,ta,ag2,cl2,wk2,hg2,hra,hma,hsa,hfa,bk,bv,acc⟩:=R2.ex
 have hX2:=HX.out c2 (fun b hb=>(ag2 b (by omega)).trans (AG1.out b hb))
 have hc12:∀b,c1 b=q→c2 b=q:=fun b e=>by
  by_cases hl:b<w1.heap.size
  · exact(ag2 b hl).trans e
  · exact absurd ((CL1.out b (by omega)).symm.trans e) (fun k=>hq0 k.symm)
 have IA2:=zhd ((IA.out.ag ag2).fr R2.fr (fun b e=>by rw[hc12 b e];exact⟨fun k=>hnq k.symm,hqn,hq0⟩))
 have hcu2:c2 w.heap.size=q2:=(ag2 _ (by omega)).trans HCU1.out
 have hu2:=R2.fr.blk HBU1.out (fun e=>hq2 (by rw[←HCU1.out];exact e))
 have F2:Hid (Fr (fun b=>c b=q) w w2):=zhd (F1.out.trans R2.fr (fun b hb e=>(AG1.out b hb).symm.trans e))
 have AG2:Hid (Ag w.heap.size c c2):=zhd (fun b hb=>(ag2 b (by omega)).trans (AG1.out b hb))
 have R2':=zhd (And.intro cl2 (And.intro wk2 (And.intro hg2 (And.intro hra (And.intro hma (And.intro hsa (And.intro hfa (And.intro bk (And.intro bv (acc.low (n0:=w.heap.size) (by omega) (fun b o hb=>by have h1:=HZ.out b o hb;have h5:=z75 (List.mem_map_of_mem (f:=cnt (d+1) (.cl b o)) (List.getElem_mem hik));omega)))))))))))
 have HCU2:=zhd hcu2
 have HU2:=zhd hu2
 clear R2 ag2 cl2 wk2 hra hma hsa hfa bk bv acc hX2 hc12 hcu2 hu2 HIH IA
 go_upto_region 10 with fail
 have F2a:=(Fr.refl C0 w2).alloc (.cells #[.slice kA kn kc2,.slice vA vn vc] 200)
 have h13:=heap_alloc_new w2 (.cells #[.slice kA kn kc2,.slice vA vn vc] 200)
 generalize w2.alloc (.cells #[.slice kA kn kc2,.slice vA vn vc] 200)=w2a at *
 have H2A:=zhd F2a
 have H13:=zhd h13
 have IA2a:=zhd (IA2.out.fr0 F2a)
 have m2a:=z2k IA2a.out.blk 2 rfl
 rw[HKV.out] at m2a
 have g0a:=IA2a.out.krow.cells (g:=G) rfl i _ (List.getElem?_eq_getElem hi2)
 rw[add0] at g0a
 obtain⟨curG,hgG⟩:=z4y IA2a.out.krow (b:=G) rfl
 have zG:=z2i i hgG
 have hs2a:=F2a.size
 clear F2a h13 hgG m1 m2 g0
 go_upto_region 11 with fail
 have hcG:c2 G=qn:=IA2a.out.cg.1
 have hGw:w.heap.size≤G:=by
  by_cases h:G<w.heap.size
  · exact absurd ((AG2.out G h).symm.trans hcG) (HQF.out G)
  · omega
 have F3:=(Fr.refl (fun b=>b=G) w2a).setCell (p:=⟨G,i,none⟩) (.inr rfl) (.iface tx2 y2)
 obtain⟨cl2,wk2,hg2b,hra,hma,hsa,hfa,bk,bv,acc⟩:=R2'.out
 have IA3:=zhd (IA2a.out.setKid hn0 hnn hi2 (hra.fr0 H2A.out) F3 (zhg IA2a.out hi2))
 generalize w2a.setCell ⟨G,i,none⟩ (.iface tx2 y2)=w3 at *
 have hs3:=F3.size
 have F3H:=zhd F3
 have F03:=zhd ((F2.out.trans0 H2A.out).trans F3 (fun b hb e=>by omega))
 have hk:∀y∈t.l,KVok y:=(zgt HS.out).2.2.1
 have hset:(t.ks.set i ta)[i]'(by simpa using hik)=ta:=by simp
 have HM:=zhd (zh6 (i:=i) hq0 hqr hqn hn0 hnr hnn hnq hr0 ((HH.out.ag AG2.out).fr F03.out (fun b e k=>hqr ((HX.out c2 AG2.out b e).symm.trans k)) (fun b e k=>hq0 ((HX.out c2 AG2.out b e).symm.trans k))) (cl2.mono (by omega)) ((wk2.fr0 H2A.out).fr F3 (fun b e k=>hnq (by rw[←hcG,←e];exact k))) IA3.out.open_ (by rw[List.length_set];exact hkl) (by omega) (by omega) hk (by rw[List.length_set];exact hik) (by rw[hset];exact hsa) (by rw[hset];exact hma) (fun j h1 h2=>by rw[List.getElem_set_ne (fun e=>h2 e.symm)];exact HKS.out _ (List.getElem_mem _)) (by have:=zay t;rw[List.length_append] at hg2b;omega))
 have h133:=F3.blk H13.out (fun e:w2.heap.size=G=>by omega)
 have hu3:=F3.blk (H2A.out.blk HU2.out (fun h=>h)) (fun e:w.heap.size=G=>by have:=hcG;rw[←e,HCU2.out] at this;exact hq2qn this)
 have hc13:c2 w2.heap.size=0:=cl2 _ (Nat.le_refl _)
 have H133:=zhd h133
 have HU3:=zhd hu3
 have hnl3:=(IA3.out.lt).1
 have hcn3:=IA3.out.cn
 clear cl2 wk2 hra hma hsa hfa bk bv acc m2a g0a zG F3 h133 hu3 hset hk hg2b
 go_wp2_with fail
 refine HM.out.mono ?_
 rintro e w4 ⟨rfl,R4⟩
 have h134:=R4.fr.blk H133.out (fun e=>e.elim (fun e=>hq0 (e.symm.trans hc13)) (fun e=>hn0 (e.symm.trans hc13)))
 have hu4:=R4.fr.blk HU3.out (fun e=>e.elim (fun e=>hq2 (HCU2.out.symm.trans e)) (fun e=>hq2qn (HCU2.out.symm.trans e)))
 have x0:=z2k h134 0 rfl
 have x1:=z2k h134 1 rfl
 have y0:=z2k hu4 0 rfl
 have y1:=z2k hu4 1 rfl
 have zu0:=z2i 0 hu4
 have zu1:=z2i 1 hu4
 have HU4:=zhd hu4
 have HR4:=zhd R4
 clear h134 hu4 R4 HM
 go_wp2_with fail
 refine z1z (Fr C0 w4) [4] (by kernel_rfl) ?_
 have hSw0:(Fr C0 w4) _:=(Fr.refl C0 w4).drew
 refine tk 0 hSw0 ?_
 refine tk 1 hSw0 ?_
 refine tk 2 hSw0 ?_ (hy:=by intro w_ hS_;have e0:=hS_.cell0 x0;have e1:=hS_.cell0 x1;first|(go_simp;done)|(go_simp;with_reducible rfl))
 refine tk 3 hSw0 ?_
 refine z1v 4 rfl (fun K hK=>?_)
 go_simp
 refine hK.out _ _ ?_;clear hK K
 try simp only[Act.put,zs1,zs2,zs3]
 refine z1y (by kernel_rfl) ?_ _
 go_wp2_with fail
 refine zh8 (p:=5) (g:=w.heap.size) rfl rfl (z2j (i:=1) (z2j (i:=0) HU4.out (.slice kA kn kc2)) (.slice vA vn vc)) Tryz.underlying200 rfl (by kernel_rfl) rfl ?_
 obtain⟨cl2,wk2,hg2b,hra,hma,hsa,hfa,bk,bv,acc⟩:=R2'.out
 obtain⟨c',gone',ta',e1,e2,e3,e4,e5,e6,e7,e8,e9,e10⟩:=zhe (m:=m) hq0 hqn hn0 hnn hnq HC.out HQF.out AG2.out (by omega) HS.out rfl hik HR4.out hcn3 hnl3 HZ.out HDL.out acc (by have:=zay t;rw[List.length_append] at hg2b;omega)
 have f5:=(((Fr.refl (fun b=>b=w.heap.size) w4).setCell (p:=⟨w.heap.size,0,none⟩) (.inr rfl) (.slice kA kn kc2)).setCell (p:=⟨w.heap.size,1,none⟩) (.inr rfl) (.slice vA vn vc)).drew
 have hcu':c' w.heap.size=q2:=(e10 _ (by rw[HCU2.out];exact hq2qn) (by omega)).trans HCU2.out
 have hdat:∀{u:Value} {y:Bs},BytesAt (Dt c2) w2 u y→BytesAt (Dt c') (((w4.setCell ⟨w.heap.size,0,none⟩ (.slice kA kn kc2)).setCell ⟨w.heap.size,1,none⟩ (.slice vA vn vc)).drew) u y:=fun h=>
  ((((((h.mono (F':=fun b=>c2 b=0∧b<w2.heap.size) (fun b h hl=>⟨h,hl⟩)).fr0 H2A.out).fr F3H.out (fun b h e=>hn0 (by rw[←hcG,←e];exact h.1))).fr HR4.out.fr (fun b h e=>e.elim (fun e=>hq0 (e.symm.trans h.1)) (fun e=>hn0 (e.symm.trans h.1)))).fr f5 (fun b h e=>hq20 (by rw[←HCU2.out,←e];exact h.1)))).mono (fun b h _=>(e10 b (by rw[h.1];exact fun e=>hn0 e.symm) (by omega)).trans h.1)
 refine⟨_,_,_,_,_,_,_,_,rfl,⟨(F03.out.trans HR4.out.fr (fun b hb e=>?_)).trans f5 (fun b hb e=>by omega),c',gone',ta',e1,e2.mono f5.size,e3.fr f5 (fun b e k=>hq2 (by rw[←hcu',←e];exact k)),e4,Rep.fr f5 (fun b e k=>hq2n (by rw[←hcu',←e];exact k)) (fun b e k=>hq20 (by rw[←hcu',←e];exact k)) e5,e6,e7,?_,hdat bk,hdat bv,e9⟩⟩
 · have h1:=AG2.out b hb
   rcases e with e|e
   · exact h1.symm.trans e
   · exact absurd (h1.symm.trans e) (HQF.out b)
 · rw[e8,←HFL.out,List.map_set,hfa]
theorem zhi {r rn q st tp wp:Nat} {S:SSt} {D:DSt} (hq0:q≠0) (hqr:q≠r) (hqn:q≠rn) (hr0:rn≠0) (d:Nat):LastIH r rn q st tp wp S D d:=by
 induction d with
 |zero=>intro m c w t v gone L x hh hc hw hr;exact hr.elim
 | succ d ih =>
   intro m c w t v gone L x hh hc hw hr hs hm hfl hg
   cases d with
   |zero=>exact zhb hq0 hqr hqn hr0 hh hc hw hr hs hm hfl (by omega)
   |succ d=>exact zhh hq0 hqr hqn hr0 ih hh hc hw hr hs hm hfl hg
end
section
structure TakeRes (c:Nat→Nat) (rn q:Nat) (w:World) (pg:Nat→Option Bs) (N d m:Nat) (t:T) (L:List KV) (wp tp:Nat) (gone:List Nat) (tx:TypeId) (y:Value) (w':World):Prop where
 fr:Fr (fun b=>c b=q) w w'
 ex:∃c' gone' ta,Ag w.heap.size c c'∧Cl w' c'∧WorkAt c' q w' wp tp gone'∧gone'.length≤gone.length+2*d∧Rep c' rn w' pg N False d ta (.iface tx y)∧T.isMem' ta∧Shape d (m-1) ta∧flat d ta=L∧Acc w.heap.size d t [ta] gone gone'
def TakeEnd (c:Nat→Nat) (rn q:Nat) (w:World) (pg:Nat→Option Bs) (N d m:Nat) (t:T) (L:List KV) (wp tp:Nat) (gone:List Nat) (e:Ending) (w':World):Prop:=
 ∃tx y,e=.returned (.iface tx y)∧TakeRes c rn q w pg N d m t L wp tp gone tx y w'
theorem zhj {c c1:Nat→Nat} {rn q n cap i:Nat} {w w1 w2 w3 w':World} {pg:Nat→Option Bs} {N m:Nat} {t:T} {wp tp:Nat} {gone:List Nat} {A:Option Addr} {xs:List Value} {v3:Value} (hq0:q≠0) (hqn:q≠rn) (hs:Shape 1 m t) (hi:i<t.l.length)
 (hag:Ag w.heap.size c c1) (hcl:Cl w1 c1) (hw:WorkAt c1 q w1 wp tp (gone++goneOf t)) (h:LeafNew c1 w w1 n A cap t.l xs) (f1:Fr (fun b=>c b=q) w w1) (f2:Fr C0 w1 w2) (f3:Fr C0 w2 w3) (o3:w3.ownsRow w2.heap.size 200 2 v3 (t.l.length-1) (xs.take (i*2)++xs.drop ((i+1)*2))) (f:Fr (fun b=>b=n) w3 w') (hb:w'.heap[n]?=some (.cells #[.int .i64 0,v3] 223 (0,0))) :
 TakeRes c rn q w pg N 1 m t (t.l.take i++t.l.drop (i+1)) wp tp gone 220 (.pointer (some ⟨n,0,none⟩)) w':=by
 have hnl:=(Array.getElem?_eq_some_iff.1 h.blk).1
 have s1:=f1.size
 have s2:=f2.size
 have s3:=f3.size
 have s':=f.size
 have f13:Fr (fun b=>b=n) w1 w':=((f2.trans0 f3).mono (fun _ _ h=>h.elim)).trans f (fun _ _ h=>h)
 have hcp:∀b,b≠n→ownN c1 [n] rn b=c1 b:=fun b hb=>z8n (by simpa using hb)
 have hrow:=z0m o3 f (fun b e k=>by have:=(o3.lt b e).1;omega)
 have hcells:=(h.cells.fr f13 (fun b hb e=>hb.2.1 e)).mono (F':=Dt (ownN c1 [n] rn)) (fun b hb _=>(hcp b hb.2.1).trans hb.1)
 refine⟨f1.trans f13 (fun b hb e=>by have:=h.nn.1;omega),ownN c1 [n] rn,gone++goneOf t,.node (.mem n 0 0) (t.l.take i++t.l.drop (i+1)) [],z8o hag (fun b hb=>by simp at hb;rw[hb];exact h.nn.1),z8p (hcl.mono (by omega)) (fun b hb=>by simp at hb;omega),?_,?_,z8r hb ?_ (z8m (by simp)),⟨_,_,_,rfl⟩,?_,rfl,zaw hs h.nn.1⟩
 · exact(WorkAt.ownN hw hq0 (fun b hb=>by simp at hb;rw[hb];exact h.nn.2)).fr f13 (fun b e k=>by rw[e,z8m (by simp)] at k;exact hqn k.symm)
 · rw[List.length_append];have:=zay t;omega
 · refine ItemsAt.ofCells (xs:=xs.take (i*2)++xs.drop ((i+1)*2)) ?_ (ItemCells.append (hcells.drop (i+1)) (hcells.take i))
   rw[show(t.l.take i++t.l.drop (i+1)).length=t.l.length-1 by simp;omega]
   exact Row.ofOwn hrow (fun b e=>by
    have:=(o3.lt b e).1
    exact(hcp b (by omega)).trans (hcl b (by omega)))
 · obtain⟨nm,l,ks⟩:=t
   obtain⟨a1,a2,a3,a4⟩:=hs
   have hil:i<l.length:=hi
   exact⟨by simp[T.l];omega,by simp[T.l];omega,fun y hy=>by
    rcases List.mem_append.1 hy with h|h
    · exact a3 y (List.mem_of_mem_take h)
    · exact a3 y (List.mem_of_mem_drop h),by rw[if_pos rfl]⟩
theorem zhk {c:Nat→Nat} {r rn q:Nat} {w:World} {tp st wp:Nat} {S:SSt} {D:DSt} {m:Nat} {t:T} {v kv:Value} {gone:List Nat} {key:List UInt8} (hq0:q≠0) (hqr:q≠r) (hqn:q≠rn) (hr0:rn≠0) (hh:Hd c r w tp st S D) (hc:Cl w c) (hw:WorkAt c q w wp tp gone) (hr:Rep c rn w (pgs D) D.blocks False 1 t v) (hs:Shape 1 m t) (hm:1≤m) (hso:Sorted (flat 1 t)) (hg:getL key (flat 1 t)≠none) (hk:BytesAt (Dt c) w kv key) (hgl:gone.length≤1000000) :
 Calls Tryz.prog 146 #[.pointer (some ⟨wp,0,none⟩),v,kv] w (TakeEnd c rn q w (pgs D) D.blocks 1 m t (delL key (flat 1 t)) wp tp gone):=by
 have HCP:=zhd (zh9 hq0 hqr hqn hh hc hw hr hs hm hgl)
 obtain⟨tx,y,rfl⟩:=hr.iface
 obtain⟨kA,kc,rfl,-⟩:=hk.form
 have hfl:flat 1 t=t.l:=by rw[zgu,if_pos rfl]
 rw[hfl] at hso hg⊢
 obtain⟨hi,hdl⟩:=zfe hso hg
 have hl4:=(zgt hs).2.1
 have HS:=zhd hs
 have HK:=zhd hk
 have HDL:=zhd hdl
 clear hh hc hw hr hs hm hso hg hk hgl hfl hdl
 go_enter Tryz.func146,Tryz.ntmps146
 go_wp2_with fail
 refine HCP.out.mono ?_
 rintro e w1 ⟨f1,n,rfl,A,cap,xs,c1,hl,ag1,cl1,wk1⟩
 have m1:=z2k hl.blk 1 rfl
 have HFI:=zhd (z84 (ItemsAt.ofCells (F:=fun _=>True) (Row.ofOwn hl.row (fun _ _=>trivial)) (hl.cells.mono (fun _ _ _=>trivial))) ((HK.out.fr f1 (fun b h e=>hq0 (e.symm.trans h))).mono (F':=fun _=>True) (fun _ _ _=>trivial)))
 have HL:=zhd hl
 have F1:=zhd f1
 have AG1:=zhd ag1
 have CL1:=zhd cl1
 have WK1:=zhd wk1
 generalize hfk:findL key t.l=fk at *
 obtain⟨i,there⟩:=fk
 have hi':i<t.l.length:=hi
 have HDL':Hid (delL key t.l=t.l.take i++t.l.drop (i+1)):=HDL
 clear hl f1 ag1 cl1 wk1 HCP hfk HDL hi
 go_wp2_with fail
 refine(z63 n _ _ m1).mono ?_
 rintro e w5 ⟨rfl,rfl⟩
 go_wp2_with fail
 refine HFI.out.mono ?_
 rintro e w2 ⟨rfl,f2⟩
 have F2:=zhd f2
 have m2:=f2.cell0 m1
 have HWI:=zhd (zg7 (i:=i) (Row.ofOwn (z0m HL.out.row f2 (fun _ _ h=>h)) (F:=fun _=>True) (fun _ _=>trivial)) (ItemCells.one HL.out.cells) hi' (by omega))
 have B2:=zhd (f2.blk HL.out.blk (fun h=>h))
 clear f2 m1 HFI
 go_wp2_with fail
 refine HWI.out.mono ?_
 rintro e w3 ⟨v3,rfl,f3,o3⟩
 obtain⟨A3,c3,rfl,-⟩:=z0o o3
 have b3:=f3.blk B2.out (fun h=>h)
 have m3:=z2k b3 1 rfl
 have z3:=z2i 1 b3
 have B3:=zhd b3
 have F3:=zhd f3
 have O3:=zhd o3
 clear b3 f3 o3 m2
 go_wp2_with fail
 go_ret
 refine⟨_,_,rfl,?_⟩
 rw[HDL'.out]
 exact zhj hq0 hqn HS.out hi' AG1.out CL1.out WK1.out HL.out F1.out F2.out F3.out O3.out ((Fr.refl (fun b=>b=n) w3).setCell (p:=⟨n,1,none⟩) (.inr rfl) _) (z2j (i:=1) B3.out _)
end
end Go.Proofs.YtidalepbkljkpaaGreat
