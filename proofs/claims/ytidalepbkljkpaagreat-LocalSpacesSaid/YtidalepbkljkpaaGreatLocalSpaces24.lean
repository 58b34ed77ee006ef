import Derived.Test.YtidalepbkljkpaaGreatLocalSpaces22
set_option linter.all false
namespace Go.Proofs.YtidalepbkljkpaaGreat
open Go.RowKit Go.H
set_option maxHeartbeats 2000000
set_option maxRecDepth 100000
section
theorem zbn {r rn q st tp wp d:Nat} {S:SSt} {D:DSt} {x:KV} {kv vv:Value} (hq0:q≠0) (hqr:q≠r) (hqn:q≠rn) (hr0:rn≠0) {m:Nat} {c:Nat→Nat} {w:World} {t:T} {v:Value} {gone:List Nat}
 (hh:Hd c r w tp st S D) (hc:Cl w c) (hw:WorkAt c q w wp tp gone) (hr:Rep c rn w (pgs D) D.blocks False (d+1) t v) (hd0:¬d=0) (ih:PutIH r rn q st tp wp S D x kv vv d) (hs:Shape (d+1) m t) (hm:1≤m) (hso:Sorted (flat (d+1) t)) (hk:BytesAt (Dt c) w kv x.1) (hv:BytesAt (Dt c) w vv x.2) (hx:KVok x) (hg:gone.length+(d+1)≤1000000) (hwh:(findL x.1 t.l).2=false) :
 Calls Tryz.prog 148 #[.pointer (some ⟨wp,0,none⟩),v,.agg #[kv,vv]] w (PutRes c rn q w (pgs D) D.blocks (d+1) m t x wp tp gone):=by
 obtain⟨q2,hq2,hq20,hq2r,hq2n⟩:∃q2,q2≠q∧q2≠0∧q2≠r∧q2≠rn:=⟨q+r+rn+1,by omega,by omega,by omega,by omega⟩
 have HC00:Hid (∃c0,c0=ownN c [w.heap.size+1] q2):=zhd ⟨_,rfl⟩
 obtain⟨c0,hc0⟩:=HC00.out
 have hagc0:Ag w.heap.size c c0:=by rw[hc0];exact z8o (Ag.refl _ _) (fun b hb=>by simp at hb;omega)
 have hu:c0 (w.heap.size+1)=q2:=by rw[hc0];exact z8m (by simp)
 have hcl0:∀w_:World,w.heap.size+2≤w_.heap.size→Cl w_ c0:=fun w_ hs_=>by rw[hc0];exact z8p (hc.mono (by omega)) (fun b hb=>by simp at hb;omega)
 have HCP:=zhd (fun (w_:World) (hf:Fr C0 w w_) (hs_:w.heap.size+2≤w_.heap.size)=>z8i hq0 hqr hqn ((hh.ag hagc0).fr0 hf) (hcl0 w_ hs_) ((hw.ag hagc0).fr0 hf) ((Rep.ag hagc0 hr).fr0 hf) hs hm (by omega))
 have hfz:∀b,w.heap.size≤b→b≠w.heap.size+1→c0 b=0:=fun b hb hne=>by rw[hc0,z8n (by simpa using hne)];exact hc b hb
 have HFZ:=zhd hfz
 have HCL0:=zhd hcl0
 have HHD:=zhd (fun (w_:World) (hf:Fr C0 w w_)=>(hh.ag hagc0).fr0 hf)
 have HRD:Hid (sumN (t.ks.map (dirtyN d))≤dirtyN (d+1) t∧∀b o,w.heap.size≤b→sumN (t.ks.map (cnt d (.cl b o)))=0):=zhd ⟨zb6 hr,fun b o hb=>by have h1:=Rep.cl0 (o:=o) hb hr;have h2:=zb4 d b o t;omega⟩
 have HAG0:=zhd hagc0
 have HU:=zhd hu
 obtain⟨tx,y,rfl⟩:=hr.iface
 obtain⟨kA,kc,rfl,-⟩:=hk.form
 obtain⟨vA,vc,rfl,-⟩:=hv.form
 have HK:=zhd hk
 have HV:=zhd hv
 have HC:=zhd hc
 have hl4:t.l.length≤4:=by obtain⟨nm,l,ks⟩:=t;exact hs.2.1
 have hlm:m≤t.l.length:=by obtain⟨nm,l,ks⟩:=t;exact hs.1
 have HKV:Hid (∀y∈t.l,KVok y):=zhd (by obtain⟨nm,l,ks⟩:=t;exact hs.2.2.1)
 have HFL:Hid (flat (d+1) t=inter t.l (t.ks.map (flat d))):=zhd (by obtain⟨nm,l,ks⟩:=t;show(if d=0 then _ else _)=_;rw[if_neg hd0];rfl)
 have hkn:t.ks.length=t.l.length+1∧∀k∈t.ks,Shape d 2 k:=by obtain⟨nm,l,ks⟩:=t;have:=hs.2.2.2;rw[if_neg hd0] at this;exact this
 have HKSH:=zhd hkn.2
 have hkn1:=hkn.1
 have HD0:=zhd hd0
 have HIH:=zhd ih
 clear hkn ih
 have HX:=zhd hx
 rw[HFL.out] at hso
 have HLP:=zhd (zan (x:=x) (by simpa using hkn1) hso)
 have HSHP:=zhd hs
 have HWH:=zhd hwh
 clear hwh
 clear hh hc hw hr hs hso hk hv hx hc0 hagc0 hu hcl0 hfz HC00
 go_enter Tryz.func148,Tryz.ntmps148
 go_wp2_with fail
 have F0:=zhd (((Fr.refl C0 w).alloc (.cells #[.slice kA x.1.length kc,.slice vA x.2.length vc] 200)).alloc (.cells #[.slice none 0 0,.slice none 0 0] 200))
 have HCP0:=zhd (HCP.out _ F0.out (by simp))
 refine HCP0.out.mono ?_
 clear HCP HCP0
 rintro e w1 ⟨f1,v1,n,lv,kvv,xs,kvs,c1,rfl,⟨o1,hp⟩,hks,hxl,hcells,hn,hcn,hlo,hko,hln,ha1,hcl1,hw1⟩
 rcases hp with⟨hd,_⟩|⟨_,rfl,hb1,ok1⟩
 case inl=>exact absurd hd hd0
 have F1:=zhd f1
 have HB1:=zhd hb1
 have HCE:=zhd hcells
 have HLO:=zhd hlo
 have HA1:=zhd ha1
 have HCL1:=zhd hcl1
 have HW1:=zhd hw1
 have HXL:=zhd hxl
 have HKS:=zhd hks
 have HKO:=zhd hko
 have hkl:=All2.length hks
 obtain⟨KA,kcap,rfl,hKA⟩:=z0o ok1
 have HOK1:=zhd ok1
 have HKA:=zhd hKA
 rw[show xs.length / 2=t.l.length by omega] at o1
 obtain⟨A1,ca1,rfl,hA1⟩:=z0o o1
 have O1:=zhd o1
 have HA1':=zhd hA1
 have m1:=z2k hb1 1 rfl
 obtain⟨gk,rfl,hgk⟩:∃g,KA=some ⟨g,0,none⟩∧(g<w1.heap.size∧((w.alloc (.cells #[.slice kA x.1.length kc,.slice vA x.2.length vc] 200)).alloc (.cells #[.slice none 0 0,.slice none 0 0] 200)).heap.size≤g∧c1 g=0∧g≠n∧¬(Value.slice A1 t.l.length ca1).ownBlock=some g):=by
  cases KA with
  | none =>
    rcases HOK1.out.2 with⟨e,h0⟩|⟨g,cap,cur,e,_⟩
    · omega
    · cases e
  | some a =>
    obtain⟨g,rfl⟩:=HKA.out a rfl
    exact⟨g,rfl,(HOK1.out.lt g rfl).2,HKO.out g rfl⟩
 have hszw:((w.alloc (.cells #[.slice kA x.1.length kc,.slice vA x.2.length vc] 200)).alloc (.cells #[.slice none 0 0,.slice none 0 0] 200)).heap.size=w.heap.size+2:=by simp
 rw[hszw] at hn hgk
 clear f1 hb1 hcells hlo ha1 hcl1 hw1 hxl o1 hA1 hks hko ok1 hKA hd0
 have hb0:((w.alloc (.cells #[.slice kA x.1.length kc,.slice vA x.2.length vc] 200)).alloc (.cells #[.slice none 0 0,.slice none 0 0] 200)).heap[w.heap.size]?=some (.cells #[.slice kA x.1.length kc,.slice vA x.2.length vc] 200 (0,0)):=((Fr.refl C0 _).alloc _).blk (heap_alloc_new w _) (fun h=>h)
 have hu0:((w.alloc (.cells #[.slice kA x.1.length kc,.slice vA x.2.length vc] 200)).alloc (.cells #[.slice none 0 0,.slice none 0 0] 200)).heap[w.heap.size+1]?=some (.cells #[.slice none 0 0,.slice none 0 0] 200 (0,0)):=by
  have:=heap_alloc_new (w.alloc (.cells #[.slice kA x.1.length kc,.slice vA x.2.length vc] 200)) (.cells #[.slice none 0 0,.slice none 0 0] 200)
  rwa [show(w.alloc (.cells #[.slice kA x.1.length kc,.slice vA x.2.length vc] 200)).heap.size=w.heap.size+1 by simp] at this
 have hbx:=F1.out.blk hb0 (fun e=>hq0 (e.symm.trans (HFZ.out _ (Nat.le_refl _) (by omega))))
 have hbu:=F1.out.blk hu0 (fun e=>hq2 (HU.out.symm.trans e))
 have HBU:=zhd hbu
 have HBX:=zhd hbx
 have x0:=z2k hbx 0 rfl
 have x1:=z2k hbx 1 rfl
 have FW1:Hid (Fr (fun b=>c b=q) w w1):=zhd ((F0.out.mono (fun _ _ h=>h.elim)).trans F1.out (fun b hb h=>by rw[←HAG0.out b hb];exact h))
 have HKW1:=zhd (HK.out.fr FW1.out (fun b h e=>hq0 (e.symm.trans h)))
 have HVW1:=zhd (HV.out.fr FW1.out (fun b h e=>hq0 (e.symm.trans h)))
 have hROW:Row (fun _=>True) w1 (.slice A1 t.l.length ca1) t.l.length 2 xs:=Row.ofOwn O1.out (fun _ _=>trivial)
 have HFI:=zhd (fun (w_:World) (hf:Fr C0 w1 w_)=>z84 (((ItemsAt.ofCells hROW (HCE.out.mono (F':=fun _=>True) (fun _ _ _=>trivial))).fr0 hf)) ((HKW1.out.mono (F':=fun _=>True) (fun _ _ _=>trivial)).fr0 hf))
 have HRW:=zhd hROW
 have hs1:=FW1.out.size
 have hs0:=F1.out.size
 rw[hszw] at hs0
 clear hb0 hbx hu0 hbu hROW
 generalize hfk:findL x.1 t.l=fk at *
 obtain⟨i,there⟩:=fk
 clear hfk
 go_wp2_with fail
 refine z1z (Fr C0 w1) [] (by kernel_rfl) ?_
 have hSw0:(Fr C0 w1) _:=(Fr.refl C0 w1).drew
 refine tk 0 hSw0 ?_
 refine tk 2 hSw0 ?_
 refine tk 3 hSw0 ?_ (hy:=by intro w_ hS_;have b0:=hS_.cell0 x0;first|(go_simp;done)|(go_simp;with_reducible rfl))
 refine one_ 1 rfl (fun K hK=>?_)
 go_simp
 refine(z64 n _ _ ((Fr.refl C0 w1).drew.cell0 m1)).mono ?_
 rintro e w5 ⟨rfl,rfl⟩
 simp only[]
 refine hK.out _ _ ?kS1 (fun hSw1=>?kR1)
 case kS1=>exact(Fr.refl C0 w1).drew
 clear hK K
 try simp only[Act.put,zs1,zs2,zs3]
 refine one_ 4 rfl (fun K hK=>?_)
 go_simp
 refine(HFI.out _ (Fr.refl C0 w1).drew).mono ?_
 rintro e w5 ⟨rfl,f5⟩
 simp only[]
 have F5:=zhd ((Fr.refl C0 w1).drew.trans0 f5)
 clear f5
 refine hK.out _ _ ?kS2 (fun hSw2=>?kR2)
 case kS2=>exact F5.out
 clear hK K
 try simp only[Act.put,zs1,zs2,zs3]
 refine tk 5 hSw2 ?_
 refine tk 6 hSw2 ?_
 refine tk 7 hSw2 ?_
 refine tk 8 hSw2 ?_
 refine tk 9 hSw2 ?_
 refine z1y (by kernel_rfl) ?_ _
 have hlp:=HLP.out
 have hob:=fun b e=>O1.out.lt b e
 cases there with
 |true=>exact absurd HWH.out (by simp)
 | false =>
   simp only[Bool.false_eq_true,if_false] at hlp
   obtain⟨hi,hsk,hgk2,hp1,hp2⟩:=hlp
   rw[List.length_map] at hi
   simp only[List.getElem_map] at hsk hgk2 hp1 hp2
   have HP1:=zhd hp1
   have HP2:=zhd hp2
   have HGK2:=zhd hgk2
   have HSK:=zhd hsk
   clear hp1 hp2 hgk2 hsk HLP
   have hiv:i<kvs.length:=by omega
   have hnlw:n<w1.heap.size:=(Array.getElem?_eq_some_iff.1 HB1.out).1
   obtain⟨c1n,hc1n⟩:∃c',c'=ownN c1 [n,gk] q2:=⟨_,rfl⟩
   have HA1n:Hid (Ag ((w.alloc (.cells #[.slice kA x.1.length kc,.slice vA x.2.length vc] 200)).alloc (.cells #[.slice none 0 0,.slice none 0 0] 200)).heap.size c0 c1n):=zhd (by rw[hc1n];exact z8o HA1.out (fun b hb=>by rw[hszw];simp at hb;omega))
   have HCL1n:Hid (Cl w1 c1n):=zhd (by rw[hc1n];exact z8p HCL1.out (fun b hb=>by simp at hb;omega))
   have HW1n:Hid (WorkAt c1n q w1 wp tp (gone++goneOf t)):=zhd (by rw[hc1n];exact WorkAt.ownN HW1.out hq0 (fun b hb=>by simp at hb;rcases hb with h|h;rw[h];exact hcn;rw[h];exact hgk.2.2.1))
   have hcnn:c1n n=q2:=by rw[hc1n];exact z8m (by simp)
   have hcgk:c1n gk=q2:=by rw[hc1n];exact z8m (by simp)
   have HCEn:Hid (ItemCells (Dt c1n) w1 xs t.l):=zhd (HCE.out.mono fun b h _=>by show c1n b=0;rw[hc1n,z8n (by simp;exact⟨h.2.1,fun e=>h.2.2.2 (by rw[e];rfl)⟩)];exact h.1)
   have HLOn:Hid (∀b,(Value.slice A1 t.l.length ca1).ownBlock=some b→w.heap.size+2≤b∧c1n b=0):=zhd (fun b e=>by
    have h1:=HLO.out b e
    rw[hszw] at h1
    refine⟨h1.1,?_⟩
    rw[hc1n,z8n (by simp;exact⟨fun h=>hln (by rw[←h];exact e),fun h=>hgk.2.2.2.2 (by rw[←h];exact e)⟩)];exact h1.2)
   clear hc1n
   have hag1:Ag w.heap.size c c1n:=fun b hb=>by rw[HA1n.out b (by rw[hszw];omega)];exact HAG0.out b hb
   have HAG1:=zhd hag1
   have hq1:∀b,c0 b=q→c1n b=q:=fun b h=>by
    by_cases hb:b<w.heap.size+2
    · rw[HA1n.out b (by rw[hszw];exact hb)];exact h
    · exact absurd ((HFZ.out b (by omega) (by omega)).symm.trans h) (fun e=>hq0 e.symm)
   have hrk:=Rep.fr F1.out (fun b h e=>hqn ((hq1 b h).symm.trans e)) (fun b h e=>hq0 ((hq1 b h).symm.trans e)) (Rep.ag HA1n.out (All2.get i hi hiv HKS.out))
   have hhd:=((HHD.out _ F0.out).ag HA1n.out).fr F1.out (fun b h e=>hqr ((hq1 b h).symm.trans e)) (fun b h e=>hq0 ((hq1 b h).symm.trans e))
   have hkc:=(HK.out.ag hag1).fr FW1.out (fun b h e=>hq0 (by
    by_cases hb:b<w.heap.size
    · rw[←e,←hag1 b hb];exact h
    · exact absurd ((HC.out b (by omega)).symm.trans e) (fun e=>hq0 e.symm)))
   have hvc:=(HV.out.ag hag1).fr FW1.out (fun b h e=>hq0 (by
    by_cases hb:b<w.heap.size
    · rw[←e,←hag1 b hb];exact h
    · exact absurd ((HC.out b (by omega)).symm.trans e) (fun e=>hq0 e.symm)))
   obtain⟨txk,yk,hyk⟩:=hrk.iface
   have HPUT:=zhd (fun (cx:Nat→Nat) (hax:Ag w1.heap.size c1n cx) (w_:World) (hf:Fr C0 w1 w_) (hcx:Cl w_ cx)=>HIH.out 2 cx w_ t.ks[i] kvs[i] (gone++goneOf t) ((hhd.ag hax).fr0 hf) hcx ((HW1n.out.ag hax).fr0 hf) ((Rep.ag hax hrk).fr0 hf) (HKSH.out _ (List.getElem_mem _)) (by omega) HSK.out ((hkc.ag hax).fr0 hf) ((hvc.ag hax).fr0 hf) HX.out (by rw[List.length_append];have:=zay t;omega))
   rw[hyk] at HPUT
   have x0':=F5.out.cell0 x0
   have x1':=F5.out.cell0 x1
   have hbn:=F5.out.blk HB1.out (fun h=>h)
   have m2:=z2k hbn 2 rfl
   have HBN:=zhd hbn
   have HOK5:=zhd (z0m HOK1.out F5.out (fun _ _ h=>h))
   have hO5:=zhd (z0m O1.out F5.out (fun _ _ h=>h))
   have g0:=HOK5.out.cells (g:=gk) rfl i _ (List.getElem?_eq_getElem hiv)
   rw[add0,hyk] at g0
   have hivI:(i:Int)<(kvs.length:Int):=by omega
   have hnq:¬c1n n=q:=fun e=>hq2 (hcnn.symm.trans e)
   have hgq:¬c1n gk=q:=fun e=>hq2 (hcgk.symm.trans e)
   have hxq:¬c1n w.heap.size=q:=fun e=>hq0 (e.symm.trans (by rw[HA1n.out _ (by rw[hszw];omega)];exact HFZ.out _ (Nat.le_refl _) (by omega)))
   have hs5:=F5.out.size
   clear hbn hag1 hq1 hrk hhd hkc hvc hyk
   have hcb:c1n w5.heap.size=0:=HCL1n.out _ hs5
   go_upto_region 13 with fail
   go_cut [9,16,17,18] (fun s9 s16 s17 s18 wx=>∃(bm tx3:Nat) (y3 nx:Value) (kA2:Option Addr) (kn2 kc2:Nat) (vA2:Option Addr) (vn2 vc2:Nat) (c2:Nat→Nat) (gone2:List Nat) (n1:Nat),s9=.bool (decide (getL x.1 (flat d t.ks[i])=none))∧s16=.iface tx3 y3∧s17=nx∧s18=.pointer (some ⟨bm,0,none⟩)∧w5.heap.size≤bm∧w5.heap.size≤n1∧n1≤wx.heap.size∧Hid (wx.heap[bm]?=some (.cells #[.slice kA2 kn2 kc2,.slice vA2 vn2 vc2] 200 (0,0)))∧Hid (c2 bm=q2)∧Hid (Ag w5.heap.size c1n c2)∧Hid (Cl wx c2)∧Hid (Fr (fun b=>c1n b=q) w5 wx)∧Hid (WorkAt c2 q wx wp tp gone2)∧Hid (gone2.length≤gone.length+(d+1))∧Hid (EndU c2 rn wx (pgs D) D.blocks d 2 (putL x (flat d t.ks[i])) n1 t.ks[i] (gone++goneOf t) gone2 (.iface tx3 y3) nx (.slice kA2 kn2 kc2) (.slice vA2 vn2 vc2)))
   case first=>
    have hagx:Ag w1.heap.size c1n (ownN c1n [w5.heap.size] q2):=z8o (Ag.refl _ _) (fun b hb=>by rw[List.mem_singleton.1 hb];exact hs5)
    have hclx:Cl ((w5.alloc (.cells #[.slice none 0 0,.slice none 0 0] 200)).drew) (ownN c1n [w5.heap.size] q2):=z8p (HCL1n.out.mono (by have:((w5.alloc (.cells #[.slice none 0 0,.slice none 0 0] 200)).drew).heap.size=w5.heap.size+1:=(by simp);omega)) (fun b hb=>by rw[List.mem_singleton.1 hb];simp)
    have HAX:=zhd hagx
    have HCX:=zhd hclx
    have HCA:Hid (Cl w5.drew c1n):=zhd (HCL1n.out.mono hs5)
    have hcq:Hid (∀b,b<w5.heap.size→(ownN c1n [w5.heap.size] q2) b=c1n b):=zhd (fun b hb=>z8n (by simp;omega))
    clear hagx hclx
    refine z1z (Fr (fun b=>c1n b=q) w5) [] (by kernel_rfl) ?_
    have hSw0:(Fr (fun b=>c1n b=q) w5) _:=(Fr.refl _ w5).drew
    refine tk 0 hSw0 ?_
    refine tk 1 hSw0 ?_
    refine tk 2 hSw0 ?_
    refine tk 3 hSw0 ?_
    refine tk 4 hSw0 ?_ (hy:=by intro w_ hS_;have b0:=hS_.cell x0' hxq;have b1:=hS_.cell x1' hxq;have b2:=hS_.cell m2 hnq;have b3:=hS_.cell g0 hgq;first|(go_simp;done)|(go_simp;with_reducible rfl))
    refine tk 5 hSw0 ?_
    refine tk 6 hSw0 ?_
    refine tk 7 hSw0 ?_ (hy:=by intro w_ hS_;have b0:=hS_.cell x0' hxq;have b1:=hS_.cell x1' hxq;have b2:=hS_.cell m2 hnq;have b3:=hS_.cell g0 hgq;first|(go_simp;done)|(go_simp;with_reducible rfl))
    refine tk 8 hSw0 ?_ (hy:=by intro w_ hS_;have b0:=hS_.cell x0' hxq;have b1:=hS_.cell x1' hxq;have b2:=hS_.cell m2 hnq;have b3:=hS_.cell g0 hgq;first|(go_simp;done)|(go_simp;with_reducible rfl))
    refine z1x 9 15 rfl rfl (by kernel_rfl) rfl rfl (fun K hK=>?_) (fun K hK=>?_)
    · skip
      go_simp
      first
       | (refine (HPUT.out c1n (Ag.refl _ _) _ (F5.out.trans0 ((Fr.refl C0 w5).drew)) HCA.out).mono ?_
          rintro e w6 ⟨f6,c2,gone2,ag2,cl2,wk2,gl2,hend⟩
          obtain⟨tx3,y3,nx,kA2,kn2,kc2,vA2,vn2,vc2,rfl,hendu⟩:=hend.uni
          simp only[]
          have HORD:Hid (w5.heap.size≤w6.heap.size∧Ag w5.heap.size c1n c2∧EndU c2 rn w6 (pgs D) D.blocks d 2 (putL x (flat d t.ks[i])) w5.heap.size t.ks[i] (gone++goneOf t) gone2 (.iface tx3 y3) nx (.slice kA2 kn2 kc2) (.slice vA2 vn2 vc2)):=zhd ⟨f6.size,ag2,hendu⟩
          have F6:=zhd ((Fr.refl (fun b=>c1n b=q) w5).drew.trans f6 (fun _ _ h=>h)))
       | (refine (HPUT.out (ownN c1n [w5.heap.size] q2) HAX.out _ (F5.out.trans0 (((Fr.refl C0 w5).alloc (.cells #[.slice none 0 0, .slice none 0 0] 200)).drew)) HCX.out).mono ?_
          rintro e w6 ⟨f6,c2,gone2,ag2,cl2,wk2,gl2,hend⟩
          obtain⟨tx3,y3,nx,kA2,kn2,kc2,vA2,vn2,vc2,rfl,hendu⟩:=hend.uni
          simp only[]
          have hbx6:=f6.blk (((Fr.refl C0 _).drew).blk (heap_alloc_new w5 (.cells #[.slice none 0 0,.slice none 0 0] 200)) (fun h=>h)) (fun e=>hq2 ((z8m (by simp)).symm.trans e))
          have r0:=z2k hbx6 0 rfl
          have r1:=z2k hbx6 1 rfl
          have t0:=z2i 0 hbx6
          have t1:=z2i 1 hbx6
          have HBX6:=zhd hbx6
          have hsz5:((w5.alloc (.cells #[.slice none 0 0,.slice none 0 0] 200)).drew).heap.size=w5.heap.size+1:=by simp
          have hf6:Fr (fun b=>c1n b=q) w5 w6:=(((Fr.refl (fun b=>c1n b=q) w5).alloc (.cells #[.slice none 0 0,.slice none 0 0] 200)).drew).trans f6 (fun b hb e=>by rw[←hcq.out b hb];exact e)
          have HORD:Hid (w5.heap.size+1≤w6.heap.size∧Ag w5.heap.size c1n c2∧c2 w5.heap.size=q2∧EndU c2 rn w6 (pgs D) D.blocks d 2 (putL x (flat d t.ks[i])) (w5.heap.size+1) t.ks[i] (gone++goneOf t) gone2 (.iface tx3 y3) nx (.slice kA2 kn2 kc2) (.slice vA2 vn2 vc2)):=zhd ⟨by have:=f6.size;omega,fun b hb=>(ag2 b (by omega)).trans (hcq.out b hb),(ag2 _ (by omega)).trans (z8m (by simp)),by rw[←hsz5];exact hendu⟩
          have F6:=zhd hf6
          clear hbx6 hf6 hsz5)
      have CL2:=zhd cl2
      have WK2:=zhd wk2
      have GL2:=zhd gl2
      clear f6 ag2 cl2 wk2 hend hendu gl2
      refine hK.out _ _ ?kS3 (fun hSw1=>?kR3)
      case kS3=>exact F6.out
      clear hK K
      try simp only[Act.put,zs1,zs2,zs3]
      refine tk 10 hSw1 ?_
      refine tk 11 hSw1 ?_
      refine tk 12 hSw1 ?_
      refine tk 13 hSw1 ?_
      refine tk 14 hSw1 ?_
      refine one_ 15 rfl (fun K hK=>?_)
      go_simp
      refine hK.out _ _ ?kS4 (fun hSw2=>?kR4)
      case kS4=>first|exact F6.out.alloc _|exact((Fr.refl _ w5).alloc _).drew
      clear hK K
      try simp only[Act.put,zs1,zs2,zs3]
      refine tk 16 hSw2 ?_
      refine tk 17 hSw2 ?_
      refine one_ 18 rfl (fun K hK=>?_)
      go_simp
      refine hK.out _ _ ?kS5 (fun hSw3=>?kR5)
      case kS5=>first|exact F6.out.alloc _|exact(F6.out.setCell (p:=⟨w5.heap.size,0,none⟩) (.inl (Nat.le_refl _)) _).setCell (p:=⟨w5.heap.size,1,none⟩) (.inl (Nat.le_refl _)) _
      clear hK K
      try simp only[Act.put,zs1,zs2,zs3]
      refine tk 19 hSw3 ?_
      refine z1y (by kernel_rfl) ?_ _
      go_wp2_with fail
      go_meet
      case rel=>
       first
        | (obtain ⟨h1, h2, h3, h4⟩ := HORD.out
           have hS:=((Fr.refl (fun b=>b=w5.heap.size) w6).setCell (p:=⟨w5.heap.size,0,none⟩) (.inr rfl) (.slice kA2 kn2 kc2)).setCell (p:=⟨w5.heap.size,1,none⟩) (.inr rfl) (.slice vA2 vn2 vc2)
           have hss:=hS.size
           refine⟨w5.heap.size,tx3,y3,nx,kA2,kn2,kc2,vA2,vn2,vc2,c2,gone2,w5.heap.size+1,rfl,rfl,rfl,rfl,Nat.le_refl _,Nat.le_succ _,by omega,zhd (z2j (i:=1) (z2j (i:=0) HBX6.out (.slice kA2 kn2 kc2)) (.slice vA2 vn2 vc2)),zhd h3,zhd h2,zhd (CL2.out.mono hss),zhd ((F6.out.setCell (p:=⟨w5.heap.size,0,none⟩) (.inl (Nat.le_refl _)) _).setCell (p:=⟨w5.heap.size,1,none⟩) (.inl (Nat.le_refl _)) _),zhd (WK2.out.fr hS (fun b h e=>hq2 (by rw[←h3,←h];exact e))),zhd (by have:=GL2.out;have h5:=zay t;rw[List.length_append] at this;omega),zhd (h4.fr hS (fun b h e=>hq2n (by rw[←h3,←h];exact e)) (fun b h e=>hq20 (by rw[←h3,←h];exact e)))⟩)
        | (obtain ⟨h1, h2, h4⟩ := HORD.out
           have hA:=(Fr.refl C0 w6).alloc (.cells #[.slice kA2 kn2 kc2,.slice vA2 vn2 vc2] 200)
           have hcw:c2 w6.heap.size=0:=CL2.out _ (Nat.le_refl _)
           have hagn:Ag w6.heap.size c2 (ownN c2 [w6.heap.size] q2):=z8o (Ag.refl _ _) (fun b hb=>by rw[List.mem_singleton.1 hb];exact Nat.le_refl _)
           refine⟨w6.heap.size,tx3,y3,nx,kA2,kn2,kc2,vA2,vn2,vc2,ownN c2 [w6.heap.size] q2,gone2,w5.heap.size,rfl,rfl,rfl,rfl,h1,Nat.le_refl _,by have:=hA.size;omega,zhd (heap_alloc_new _ _),zhd (z8m (by simp)),zhd (fun b hb=>(hagn b (by omega)).trans (h2 b hb)),zhd (z8p (CL2.out.mono hA.size) (fun b hb=>by rw[List.mem_singleton.1 hb];simp)),zhd (F6.out.alloc _),zhd ((WK2.out.ag hagn).fr0 hA),zhd (by have:=GL2.out;have h5:=zay t;rw[List.length_append] at this;omega),zhd ((h4.ag hagn).fr hA (fun _ h=>h.elim) (fun _ h=>h.elim))⟩)
    · skip
      go_simp
      refine hK.out _ _ ?kS6 (fun hSw4=>?kR6)
      case kS6=>first|exact F6.out.alloc _|exact((Fr.refl _ w5).alloc _).drew
      clear hK K
      try simp only[Act.put,zs1,zs2,zs3]
      refine one_ 9 rfl (fun K hK=>?_)
      go_simp
      first
       | (refine (HPUT.out c1n (Ag.refl _ _) _ (F5.out.trans0 ((Fr.refl C0 w5).drew)) HCA.out).mono ?_
          rintro e w6 ⟨f6,c2,gone2,ag2,cl2,wk2,gl2,hend⟩
          obtain⟨tx3,y3,nx,kA2,kn2,kc2,vA2,vn2,vc2,rfl,hendu⟩:=hend.uni
          simp only[]
          have HORD:Hid (w5.heap.size≤w6.heap.size∧Ag w5.heap.size c1n c2∧EndU c2 rn w6 (pgs D) D.blocks d 2 (putL x (flat d t.ks[i])) w5.heap.size t.ks[i] (gone++goneOf t) gone2 (.iface tx3 y3) nx (.slice kA2 kn2 kc2) (.slice vA2 vn2 vc2)):=zhd ⟨f6.size,ag2,hendu⟩
          have F6:=zhd ((Fr.refl (fun b=>c1n b=q) w5).drew.trans f6 (fun _ _ h=>h)))
       | (refine (HPUT.out (ownN c1n [w5.heap.size] q2) HAX.out _ (F5.out.trans0 (((Fr.refl C0 w5).alloc (.cells #[.slice none 0 0, .slice none 0 0] 200)).drew)) HCX.out).mono ?_
          rintro e w6 ⟨f6,c2,gone2,ag2,cl2,wk2,gl2,hend⟩
          obtain⟨tx3,y3,nx,kA2,kn2,kc2,vA2,vn2,vc2,rfl,hendu⟩:=hend.uni
          simp only[]
          have hbx6:=f6.blk (((Fr.refl C0 _).drew).blk (heap_alloc_new w5 (.cells #[.slice none 0 0,.slice none 0 0] 200)) (fun h=>h)) (fun e=>hq2 ((z8m (by simp)).symm.trans e))
          have r0:=z2k hbx6 0 rfl
          have r1:=z2k hbx6 1 rfl
          have t0:=z2i 0 hbx6
          have t1:=z2i 1 hbx6
          have HBX6:=zhd hbx6
          have hsz5:((w5.alloc (.cells #[.slice none 0 0,.slice none 0 0] 200)).drew).heap.size=w5.heap.size+1:=by simp
          have hf6:Fr (fun b=>c1n b=q) w5 w6:=(((Fr.refl (fun b=>c1n b=q) w5).alloc (.cells #[.slice none 0 0,.slice none 0 0] 200)).drew).trans f6 (fun b hb e=>by rw[←hcq.out b hb];exact e)
          have HORD:Hid (w5.heap.size+1≤w6.heap.size∧Ag w5.heap.size c1n c2∧c2 w5.heap.size=q2∧EndU c2 rn w6 (pgs D) D.blocks d 2 (putL x (flat d t.ks[i])) (w5.heap.size+1) t.ks[i] (gone++goneOf t) gone2 (.iface tx3 y3) nx (.slice kA2 kn2 kc2) (.slice vA2 vn2 vc2)):=zhd ⟨by have:=f6.size;omega,fun b hb=>(ag2 b (by omega)).trans (hcq.out b hb),(ag2 _ (by omega)).trans (z8m (by simp)),by rw[←hsz5];exact hendu⟩
          have F6:=zhd hf6
          clear hbx6 hf6 hsz5)
      have CL2:=zhd cl2
      have WK2:=zhd wk2
      have GL2:=zhd gl2
      clear f6 ag2 cl2 wk2 hend hendu gl2
      refine hK.out _ _ ?kS7 (fun hSw5=>?kR7)
      case kS7=>exact F6.out
      clear hK K
      try simp only[Act.put,zs1,zs2,zs3]
      refine tk 10 hSw5 ?_
      refine tk 11 hSw5 ?_
      refine tk 12 hSw5 ?_
      refine tk 13 hSw5 ?_
      refine tk 14 hSw5 ?_
      refine tk 16 hSw5 ?_
      refine tk 17 hSw5 ?_
      refine one_ 18 rfl (fun K hK=>?_)
      go_simp
      refine hK.out _ _ ?kS8 (fun hSw6=>?kR8)
      case kS8=>first|exact F6.out.alloc _|exact(F6.out.setCell (p:=⟨w5.heap.size,0,none⟩) (.inl (Nat.le_refl _)) _).setCell (p:=⟨w5.heap.size,1,none⟩) (.inl (Nat.le_refl _)) _
      clear hK K
      try simp only[Act.put,zs1,zs2,zs3]
      refine tk 19 hSw6 ?_
      refine z1y (by kernel_rfl) ?_ _
      go_wp2_with fail
      go_meet
      case rel=>
       first
        | (obtain ⟨h1, h2, h3, h4⟩ := HORD.out
           have hS:=((Fr.refl (fun b=>b=w5.heap.size) w6).setCell (p:=⟨w5.heap.size,0,none⟩) (.inr rfl) (.slice kA2 kn2 kc2)).setCell (p:=⟨w5.heap.size,1,none⟩) (.inr rfl) (.slice vA2 vn2 vc2)
           have hss:=hS.size
           refine⟨w5.heap.size,tx3,y3,nx,kA2,kn2,kc2,vA2,vn2,vc2,c2,gone2,w5.heap.size+1,rfl,rfl,rfl,rfl,Nat.le_refl _,Nat.le_succ _,by omega,zhd (z2j (i:=1) (z2j (i:=0) HBX6.out (.slice kA2 kn2 kc2)) (.slice vA2 vn2 vc2)),zhd h3,zhd h2,zhd (CL2.out.mono hss),zhd ((F6.out.setCell (p:=⟨w5.heap.size,0,none⟩) (.inl (Nat.le_refl _)) _).setCell (p:=⟨w5.heap.size,1,none⟩) (.inl (Nat.le_refl _)) _),zhd (WK2.out.fr hS (fun b h e=>hq2 (by rw[←h3,←h];exact e))),zhd (by have:=GL2.out;have h5:=zay t;rw[List.length_append] at this;omega),zhd (h4.fr hS (fun b h e=>hq2n (by rw[←h3,←h];exact e)) (fun b h e=>hq20 (by rw[←h3,←h];exact e)))⟩)
        | (obtain ⟨h1, h2, h4⟩ := HORD.out
           have hA:=(Fr.refl C0 w6).alloc (.cells #[.slice kA2 kn2 kc2,.slice vA2 vn2 vc2] 200)
           have hcw:c2 w6.heap.size=0:=CL2.out _ (Nat.le_refl _)
           have hagn:Ag w6.heap.size c2 (ownN c2 [w6.heap.size] q2):=z8o (Ag.refl _ _) (fun b hb=>by rw[List.mem_singleton.1 hb];exact Nat.le_refl _)
           refine⟨w6.heap.size,tx3,y3,nx,kA2,kn2,kc2,vA2,vn2,vc2,ownN c2 [w6.heap.size] q2,gone2,w5.heap.size,rfl,rfl,rfl,rfl,h1,Nat.le_refl _,by have:=hA.size;omega,zhd (heap_alloc_new _ _),zhd (z8m (by simp)),zhd (fun b hb=>(hagn b (by omega)).trans (h2 b hb)),zhd (z8p (CL2.out.mono hA.size) (fun b hb=>by rw[List.mem_singleton.1 hb];simp)),zhd (F6.out.alloc _),zhd ((WK2.out.ag hagn).fr0 hA),zhd (by have:=GL2.out;have h5:=zay t;rw[List.length_append] at this;omega),zhd ((h4.ag hagn).fr hA (fun _ h=>h.elim) (fun _ h=>h.elim))⟩)
   case rest=>
    obtain⟨bm,tx3,y3,nx,kA2,kn2,kc2,vA2,vn2,vc2,c2,gone2,n1,rfl,rfl,rfl,rfl,hbm,hn1,hn2,HBM,HQ2,HAG2,HCL2,HFR2,HWK2,HGL2,HEND⟩:=hcut
    have hbnc:=HFR2.out.blk HBN.out hnq
    have huc1:c1n (w.heap.size+1)=q2:=by rw[HA1n.out _ (by rw[hszw];omega)];exact HU.out
    have hbuc:=HFR2.out.blk (F5.out.blk HBU.out (fun h=>h)) (fun e=>hq2 (huc1.symm.trans e))
    have HKR:=zhd (z0m HOK5.out HFR2.out (fun b e h=>by simp[Value.ownBlock] at e;subst e;exact hgq h))
    have HLR:=zhd (z0m hO5.out HFR2.out (fun b e h=>hq0 (h.symm.trans (HLOn.out b e).2)))
    have HCEc:=zhd (((HCEn.out.mono (F':=fun b=>c1n b=0∧b<w1.heap.size) (fun b h hl=>⟨h,hl⟩)).fr0 F5.out).fr HFR2.out (fun b h e=>hq0 (e.symm.trans h.1)))
    have y0:=HKR.out.cells (g:=gk) rfl i _ (List.getElem?_eq_getElem hiv)
    rw[add0] at y0
    obtain⟨cur,hgb5⟩:=z4y HKR.out (b:=gk) rfl
    have z0:=z2i i hgb5
    have p2:=z2k hbnc 2 rfl
    have HBNC:=zhd hbnc
    have HBUC:=zhd hbuc
    have hsc:=HFR2.out.size
    clear hbnc hbuc hgb5 m2 g0 x0' x1'
    have FG:=zhd ((Fr.refl (fun b=>b=gk) wc).setCell (p:=⟨gk,i,none⟩) (.inr rfl) (.iface tx3 y3))
    have hug:¬(w.heap.size+1=gk):=by omega
    have hu7:=FG.out.blk HBUC.out hug
    have u0:=z2k hu7 0 rfl
    have u1:=z2k hu7 1 rfl
    have zu0:=z2i 0 hu7
    have zu1:=z2i 1 hu7
    have HU7:=zhd hu7
    have hngk:¬n=gk:=fun e=>hgk.2.2.2.1 e.symm
    have HBN7:=zhd (FG.out.blk HBNC.out hngk)
    have HKR7:=zhd (z8l (u:=.iface tx3 y3) HKR.out hiv)
    have HAG1':Hid (Ag w.heap.size c c1n):=zhd (fun b hb=>by rw[HA1n.out b (by rw[hszw];omega)];exact HAG0.out b hb)
    have hcg2:c2 gk=q2:=by rw[HAG2.out _ (by omega)];exact hcgk
    have hcn2:c2 n=q2:=by rw[HAG2.out _ (by omega)];exact hcnn
    have hcu2:c2 (w.heap.size+1)=q2:=by rw[HAG2.out _ (by omega)];exact huc1
    have HAGF:Hid (Ag w.heap.size c c2):=zhd (fun b hb=>(HAG2.out b (by omega)).trans (HAG1'.out b hb))
    have HAGZ:Hid (Ag ((w.alloc (.cells #[.slice kA x.1.length kc,.slice vA x.2.length vc] 200)).alloc (.cells #[.slice none 0 0,.slice none 0 0] 200)).heap.size c0 c2):=zhd (fun b hb=>(HAG2.out b (by rw[hszw] at hb;omega)).trans (HA1n.out b hb))
    have HFWC:Hid (Fr (fun b=>c b=q) w wc):=zhd ((FW1.out.trans0 F5.out).trans HFR2.out (fun b hb e=>by rw[←HAG1'.out b hb];exact e))
    have HFZC:Hid (Fr (fun b=>c0 b=q∨b=w.heap.size+1) _ wc):=zhd (((F1.out.mono (C2:=fun b=>c0 b=q∨b=w.heap.size+1) (fun _ _ h=>.inl h)).trans0 F5.out).trans HFR2.out (fun b hb e=>.inl (by rw[←HA1n.out b hb];exact e)))
    have hk0:kvs≠[]:=by
     intro e
     have:kvs.length=0:=by rw[e];rfl
     omega
    have HK0:=zhd hk0
    have HMORE:Hid (decide (getL x.1 (flat d t.ks[i])=none)=decide (getL x.1 (flat (d+1) t)=none)):=zhd (by rw[HFL.out,HGK2.out])
    rcases HEND.out with⟨hnx,ta,e1,e2,e3,e4⟩|⟨tx2,y2,ta,tb,x2,hnx,e1,e2,e3,e4,e5,e6,e7,e8,e9⟩
    · subst hnx
      have E1:=zhd e1
      have E2:=zhd e2
      have E3:=zhd e3
      have E4:=zhd e4
      clear e1 e2 e3 e4 hu7 hk0 HEND
      go_wp2_with fail
      refine ret4 (p:=8) (g:=w.heap.size+1) rfl rfl (z2j (i:=1) (z2j (i:=0) HU7.out (.slice none 0 0)) (.slice none 0 0)) Tryz.underlying200 rfl (by kernel_rfl) rfl ?_
      have hFU:=((Fr.refl (fun b=>b=w.heap.size+1) (wc.setCell ⟨gk,i,none⟩ (.iface tx3 y3))).setCell (p:=⟨w.heap.size+1,0,none⟩) (.inr rfl) (.slice none 0 0)).setCell (p:=⟨w.heap.size+1,1,none⟩) (.inr rfl) (.slice none 0 0)
      have hFT:=(FG.out.mono (C2:=fun b=>b=gk∨b=w.heap.size+1) (fun _ _ h=>.inl h)).trans (hFU.mono (C2:=fun b=>b=gk∨b=w.heap.size+1) (fun _ _ h=>.inr h)) (fun _ _ h=>h)
      have hsf:=hFT.size
      have hC:∀b,(b=gk∨b=w.heap.size+1)→c2 b=q2:=fun b h=>by rcases h with h|h<;>rw[h]<;>assumption
      have hdat:∀b,c1n b=0→b<w1.heap.size→c2 b=0:=fun b h hl=>(HAG2.out b (Nat.lt_of_lt_of_le hl hs5)).trans h
      have hce:=(HCEc.out.fr hFT (fun b h e=>hq20 ((hC b e).symm.trans (hdat b h.1 h.2)))).mono (F':=Dt c2) (fun b h _=>hdat b h.1 h.2)
      have hlr:=z0m HLR.out hFT (fun b e h=>hq20 ((hC b h).symm.trans (hdat b (HLOn.out b e).2 (hob b e).2)))
      have hit:=ItemsAt.ofCells (Row.ofOwn hlr (fun b e=>hdat b (HLOn.out b e).2 (hob b e).2)) hce
      have hkr:=z0m HKR7.out hFU (fun b e h=>hug (by simp[Value.ownBlock] at e;rw[e];exact h.symm))
      have hbnf:=hFU.blk HBN7.out (fun e=>by clear hce hlr hit hkr;omega)
      have hrta:=Rep.fr hFT (fun b h e=>hq2n ((hC b h).symm.trans e)) (fun b h e=>hq20 ((hC b h).symm.trans e)) E1.out
      have hkids:=zbf (c':=c2) (q:=q) HKS.out (HCL0.out _ (by rw[hszw];exact Nat.le_refl _)) HAGZ.out (by rw[hszw];exact Nat.lt_succ_self _) HU.out hq0 hqn hq20 hq2n (HFZC.out.trans hFT (fun b hb h=>by rcases h with h|h;exact absurd hb (by rw[hszw,h];exact Nat.not_lt.2 hgk.2.1);exact .inr h))
      have hfr:=HFWC.out.trans hFT (fun b hb h=>absurd hb (by rcases h with h|h;rw[h];exact Nat.not_lt.2 (Nat.le_trans (Nat.le_add_right _ 2) hgk.2.1);rw[h];exact Nat.not_lt.2 (Nat.le_add_right _ 1)))
      have hnwc:n<wc.heap.size:=(Array.getElem?_eq_some_iff.1 HBNC.out).1
      have hgwc:gk<wc.heap.size:=(HKR.out.lt gk rfl).2
      refine fin hq2 hq20 hq2n (ns:=[n,gk]) (cA:=c2) (fun b hb=>?_) HAGF.out (HCL2.out.mono hsf) (HWK2.out.fr hFT (fun b h e=>hq2 ((hC b h).symm.trans e))) hfr HGL2.out ?_
      · rcases(show b=n∨b=gk by simpa using hb) with h|h
        · rw[h];exact⟨hcn2,Nat.le_trans (Nat.le_add_right _ 2) hn,Nat.lt_of_lt_of_le hnwc hsf⟩
        · rw[h];exact⟨hcg2,Nat.le_trans (Nat.le_add_right _ 2) hgk.2.1,Nat.lt_of_lt_of_le hgwc hsf⟩
      · rw[←HMORE.out]
        exact zbg HD0.out hi hkn1 hlm hl4 HKV.out HKSH.out HFL.out HP1.out hbnf hit hkr hkids hrta E2.out E3.out E4.out (Nat.le_trans (Nat.le_add_right _ 2) hn) (Nat.le_trans (Nat.le_add_right _ 2) hgk.2.1) hngk (Nat.lt_of_lt_of_le (Nat.lt_of_lt_of_le hnlw hs5) hn1) (Nat.lt_of_lt_of_le (Nat.lt_of_lt_of_le hgk.1 hs5) hn1) (Nat.le_trans (Nat.le_trans hs1 hs5) hn1) HRD.out.2 HRD.out.1
    · subst hnx
      have E1:=zhd e1
      have E1b:=zhd e2
      have E2:=zhd e3
      have E2b:=zhd e4
      have EK:=zhd e5
      have EV:=zhd e6
      have EX:=zhd e7
      have E3:=zhd e8
      have E4:=zhd e9
      clear e1 e2 e3 e4 e5 e6 e7 e8 e9 hk0 HEND
      have hkn2:kn2=x2.1.length:=by obtain⟨_,_,h,_⟩:=EK.out;injection h
      have hvn2:vn2=x2.2.length:=by obtain⟨_,_,h,_⟩:=EV.out;injection h
      subst hkn2
      subst hvn2
      have hbmg:¬bm=gk:=by omega
      have hbmn:¬bm=n:=by omega
      have hbm7:=FG.out.blk HBM.out hbmg
      have b0:=z2k hbm7 0 rfl
      have b1:=z2k hbm7 1 rfl
      have p1:=z2k HBN7.out 1 rfl
      have HLR7:=zhd (z0m HLR.out FG.out (fun b e h=>hgk.2.2.2.2 (by rw[←h];exact e)))
      have HONE:=zhd HCEc.out.one
      have hil:i≤t.l.length:=by omega
      have HIN:=zhd (fun (w_:World) (hf:Fr C0 (wc.setCell ⟨gk,i,none⟩ (.iface tx3 y3)) w_)=>z8j (kA:=kA2) (vA:=vA2) (kn:=x2.1.length) (kc:=kc2) (vn:=x2.2.length) (vc:=vc2) ((Row.ofOwn HLR7.out (F:=fun _=>True) (fun _ _=>trivial)).fr0 hf) HONE.out hil (by omega))
      clear hbm7
      go_wp2_with fail
      refine z1z (Fr C0 (wc.setCell ⟨gk,i,none⟩ (.iface tx3 y3))) [10] (by kernel_rfl) ?_
      have hSw0:(Fr C0 (wc.setCell ⟨gk,i,none⟩ (.iface tx3 y3))) _:=(Fr.refl C0 _).drew
      refine tk 0 hSw0 ?_
      refine tk 1 hSw0 ?_
      refine tk 2 hSw0 ?_
      refine tk 3 hSw0 ?_
      refine tk 4 hSw0 ?_ (hy:=by intro w_ hS_;have j0:=hS_.cell0 b0;have j1:=hS_.cell0 b1;have j2:=hS_.cell0 p1;first|(go_simp;done)|(go_simp;with_reducible rfl))
      refine tk 5 hSw0 ?_
      refine tk 6 hSw0 ?_ (hy:=by intro w_ hS_;have j0:=hS_.cell0 b0;have j1:=hS_.cell0 b1;have j2:=hS_.cell0 p1;first|(go_simp;done)|(go_simp;with_reducible rfl))
      refine one_ 7 rfl (fun K hK=>?_)
      go_simp
      refine(HIN.out _ (Fr.refl C0 _).drew).mono ?_
      rintro e w8 ⟨v8,rfl,f8,o8⟩
      simp only[]
      obtain⟨A8,c8,rfl,hA8⟩:=z0o o8
      have F8:=zhd ((Fr.refl C0 _).drew.trans0 f8)
      have O8:=zhd o8
      have HA8:=zhd hA8
      have hbn8:=F8.out.blk HBN7.out (fun h=>h)
      have n1c:=z2k hbn8 1 rfl
      have zn8:=z2i 1 hbn8
      have HBN8:=zhd hbn8
      clear f8 o8 hbn8 hA8
      refine hK.out _ _ ?kS9 (fun hSw1=>?kR9)
      case kS9=>exact F8.out
      clear hK K
      try simp only[Act.put,zs1,zs2,zs3]
      refine tk 8 hSw1 ?_
      refine tk 9 hSw1 ?_
      refine z1v 10 rfl (fun K hK=>?_)
      go_simp
      refine hK.out _ _ ?_;clear hK K
      try simp only[Act.put,zs1,zs2,zs3]
      refine z1y (by kernel_rfl) ?_ _
      have HBN9:=zhd (z2j (i:=1) HBN8.out (.slice A8 (t.l.length+1) c8))
      have FN:=zhd ((Fr.refl (fun b=>b=n) w8).setCell (p:=⟨n,1,none⟩) (.inr rfl) (.slice A8 (t.l.length+1) c8))
      have s2:=z2k HBN9.out 2 rfl
      have HKR9:=zhd (z0m (z0m HKR7.out F8.out (fun _ _ h=>h)) FN.out (fun b e h=>hngk (by simp[Value.ownBlock] at e;rw[e];exact h.symm)))
      have HKONE:Hid (∀u∈kvs.set i (.iface tx3 y3),u.oneCell'=true):=by
       refine zhd fun u hu=>?_
       rcases List.mem_or_eq_of_mem_set hu with h|h
       · obtain⟨j,hj,rfl⟩:=List.getElem_of_mem h
         obtain⟨tx,y,hy⟩:=(All2.get j (by omega) hj HKS.out).iface
         rw[hy];rfl
       · rw[h];rfl
      have hi1:i+1≤kvs.length:=hiv
      have hk5:kvs.length≤5:=by omega
      have HANY:=zhd (z8k (i:=i+1) (tx:=tx2) (y:=y2) (Row.ofOwn HKR9.out (F:=fun _=>True) (fun _ _=>trivial)) HKONE.out hi1 (by omega))
      have hs7:(wc.setCell ⟨gk,i,none⟩ (.iface tx3 y3)).heap.size=wc.heap.size:=by simp[go_sem]
      have hs8:wc.heap.size≤w8.heap.size:=by have:=F8.out.size;omega
      have hs8n:(w8.setCell ⟨n,1,none⟩ (.slice A8 (t.l.length+1) c8)).heap.size=w8.heap.size:=by simp[go_sem]
      go_wp2_with fail
      refine HANY.out.mono ?_
      rintro e w9 ⟨v9,rfl,f9,o9⟩
      obtain⟨A9,c9,rfl,hA9⟩:=z0o o9
      have F9:=zhd f9
      have O9:=zhd o9
      have HA9:=zhd hA9
      have hbn10:=f9.blk HBN9.out (fun h=>h)
      have n2c:=z2k hbn10 2 rfl
      have zn10:=z2i 2 hbn10
      have HBN11:=zhd (z2j (i:=2) hbn10 (.slice A9 (kvs.length+1) c9))
      have FN2:=zhd ((Fr.refl (fun b=>b=n) w9).setCell (p:=⟨n,2,none⟩) (.inr rfl) (.slice A9 (kvs.length+1) c9))
      have l1:=z2k HBN11.out 1 rfl
      have l2:=z2k HBN11.out 2 rfl
      have hs9:=F9.out.size
      have HU11:=zhd (FN2.out.blk (F9.out.blk (FN.out.blk (F8.out.blk HU7.out (fun h=>h)) (by omega)) (fun h=>h)) (by omega))
      have uu0:=z2k HU11.out 0 rfl
      have uu1:=z2k HU11.out 1 rfl
      have zz0:=z2i 0 HU11.out
      have zz1:=z2i 1 HU11.out
      clear f9 o9 hA9 hbn10 b0 b1 p1 u0 u1 zu0 zu1 n1c zn8
      go_upto_if 142 with fail
      have hnwc:n<wc.heap.size:=(Array.getElem?_eq_some_iff.1 HBNC.out).1
      have hgwc:gk<wc.heap.size:=(HKR.out.lt gk rfl).2
      have hd7:(wc.setCell ⟨gk,i,none⟩ (.iface tx3 y3)).drew.heap.size=wc.heap.size:=hs7
      have hob8:∀b,(Value.slice A8 (t.l.length+1) c8).ownBlock=some b→wc.heap.size≤b∧b<w8.heap.size:=fun b e=>by have:=O8.out.lt b e;rw[hd7] at this;exact this
      have hob9:∀b,(Value.slice A9 (kvs.length+1) c9).ownBlock=some b→w8.heap.size≤b∧b<w9.heap.size:=fun b e=>by have:=O9.out.lt b e;rw[hs8n] at this;exact this
      have hs11:(w9.setCell ⟨n,2,none⟩ (.slice A9 (kvs.length+1) c9)).heap.size=w9.heap.size:=by simp[go_sem]
      have hs89:w8.heap.size≤w9.heap.size:=by rw[←hs8n];exact hs9
      have HALL:Hid (∀(wf:World) (ns:List Nat),Fr (fun b=>b=w.heap.size+1) (w9.setCell ⟨n,2,none⟩ (.slice A9 (kvs.length+1) c9)) wf→(∀b∈ns,w8.heap.size≤b∧b<wf.heap.size)→
       Ag w.heap.size c (ownN c2 ns q2)∧Cl wf (ownN c2 ns q2)∧WorkAt (ownN c2 ns q2) q wf wp tp gone2∧Fr (fun b=>c b=q) w wf∧All2 (Rep (ownN c2 ns q2) rn wf (pgs D) D.blocks False d) t.ks kvs∧Rep (ownN c2 ns q2) rn wf (pgs D) D.blocks False d ta (.iface tx3 y3)∧Rep (ownN c2 ns q2) rn wf (pgs D) D.blocks False d tb (.iface tx2 y2)∧
       Row (Dt (ownN c2 ns q2)) wf (.slice A8 (t.l.length+1) c8) (t.l.length+1) 2 (xs.take (i*2)++[.slice kA2 x2.1.length kc2,.slice vA2 x2.2.length vc2]++xs.drop (i*2))∧ItemCells (Dt (ownN c2 ns q2)) wf (xs.take (i*2)++[.slice kA2 x2.1.length kc2,.slice vA2 x2.2.length vc2]++xs.drop (i*2)) (t.l.take i++x2::t.l.drop i)∧wf.ownsRow 0 20 1 (.slice A9 (kvs.length+1) c9) (kvs.length+1) (kin kvs i (.iface tx3 y3) (.iface tx2 y2))∧ownN c2 ns q2 n=q2∧wc.heap.size≤wf.heap.size∧w9.heap.size≤wf.heap.size):=by
       refine zhd fun wf ns hFU hns=>?_
       have hst:Fr (fun b=>b=gk∨b=n∨b=w.heap.size+1) wc wf:=(((((FG.out.mono (C2:=fun b=>b=gk∨b=n∨b=w.heap.size+1) (fun _ _ h=>.inl h)).trans0 F8.out).trans FN.out (fun _ _ h=>.inr (.inl h))).trans0 F9.out).trans FN2.out (fun _ _ h=>.inr (.inl h))).trans hFU (fun _ _ h=>.inr (.inr h))
       have hsf:=hst.size
       have hsF:=hFU.size
       rw[hs11] at hsF
       have hout:∀b,b<w8.heap.size→ownN c2 ns q2 b=c2 b:=fun b hb=>z8n (fun hm=>Nat.not_lt.2 (hns b hm).1 hb)
       have hagA:Ag wc.heap.size c2 (ownN c2 ns q2):=fun b hb=>hout b (Nat.lt_of_lt_of_le hb hs8)
       have huwc:w.heap.size+1<wc.heap.size:=Nat.lt_of_lt_of_le (Nat.lt_succ_self _) (Nat.le_trans (Nat.le_trans hs0 hs5) hsc)
       have hC:∀b,(b=gk∨b=n∨b=w.heap.size+1)→ownN c2 ns q2 b=q2:=fun b h=>by
        rcases h with h|h|h
        · rw[h,hagA _ hgwc];exact hcg2
        · rw[h,hagA _ hnwc];exact hcn2
        · rw[h,hagA _ huwc];exact hcu2
       have hCl:∀b,(b=gk∨b=n∨b=w.heap.size+1)→b<wc.heap.size:=fun b h=>by
        rcases h with h|h|h<;>rw[h]<;>assumption
       have hC2:∀b,(b=gk∨b=n∨b=w.heap.size+1)→c2 b=q2:=fun b h=>by rw[←hagA b (hCl b h)];exact hC b h
       have hcj:ItemCells (fun b=>c2 b=0∧b<wc.heap.size) wc (xs.take (i*2)++[.slice kA2 x2.1.length kc2,.slice vA2 x2.2.length vc2]++xs.drop (i*2)) (t.l.take i++x2::t.l.drop i):=by
        have hce:=HCEc.out.mono (F':=fun b=>c2 b=0∧b<wc.heap.size) (fun b h hl=>⟨(HAG2.out b (Nat.lt_of_lt_of_le h.2 hs5)).trans h.1,hl⟩)
        have h3:=ItemCells.append (hce.drop i) (ItemCells.cons (x:=x2) (EK.out.mono (F':=fun b=>c2 b=0∧b<wc.heap.size) (fun b h hl=>⟨h,hl⟩)) (EV.out.mono (F':=fun b=>c2 b=0∧b<wc.heap.size) (fun b h hl=>⟨h,hl⟩)) .nil)
        have h4:=ItemCells.append h3 (hce.take i)
        simpa [List.append_assoc] using h4
       have hcf:=(hcj.fr hst (fun b h e=>hq20 ((hC2 b e).symm.trans h.1))).mono (F':=Dt (ownN c2 ns q2)) (fun b h _=>(hagA b h.2).trans h.1)
       have hk8:=z0m (z0m (z0m (z0m O8.out FN.out (fun b e h=>Nat.not_lt.2 (hob8 b e).1 (by rw[h];exact hnwc))) F9.out (fun _ _ h=>h)) FN2.out (fun b e h=>Nat.not_lt.2 (hob8 b e).1 (by rw[h];exact hnwc))) hFU (fun b e h=>Nat.not_lt.2 (hob8 b e).1 (by rw[h];exact huwc))
       have hk9:=z0m (z0m O9.out FN2.out (fun b e h=>Nat.not_lt.2 (hob9 b e).1 (by rw[h];exact Nat.lt_of_lt_of_le hnwc hs8))) hFU (fun b e h=>Nat.not_lt.2 (hob9 b e).1 (by rw[h];exact Nat.lt_of_lt_of_le huwc hs8))
       refine⟨HAGF.out.trans hagA (Nat.le_trans (Nat.le_trans hs1 hs5) hsc),z8p (HCL2.out.mono hsf) (fun b hb=>(hns b hb).2),(HWK2.out.ag hagA).fr hst (fun b h e=>hq2 ((hC b h).symm.trans e)),HFWC.out.trans hst (fun b hb h=>absurd hb ?_),?_,Rep.fr hst (fun b h e=>hq2n ((hC b h).symm.trans e)) (fun b h e=>hq20 ((hC b h).symm.trans e)) (Rep.ag hagA E1.out),Rep.fr hst (fun b h e=>hq2n ((hC b h).symm.trans e)) (fun b h e=>hq20 ((hC b h).symm.trans e)) (Rep.ag hagA E1b.out),Row.ofOwn hk8 (fun b e=>(hout b (hob8 b e).2).trans (HCL2.out b (hob8 b e).1)),hcf,?_,hC n (.inr (.inl rfl)),hsf,hsF⟩
       · rcases h with h|h|h
         · rw[h];exact Nat.not_lt.2 (Nat.le_trans (Nat.le_add_right _ 2) hgk.2.1)
         · rw[h];exact Nat.not_lt.2 (Nat.le_trans (Nat.le_add_right _ 2) hn)
         · rw[h];exact Nat.not_lt.2 (Nat.le_add_right _ 1)
       · exact zbf (c':=ownN c2 ns q2) (q:=q) HKS.out (HCL0.out _ (by rw[hszw];exact Nat.le_refl _)) (HAGZ.out.trans hagA (by rw[hszw];exact Nat.le_trans (Nat.le_trans hs0 hs5) hsc)) (by rw[hszw];exact Nat.lt_succ_self _) HU.out hq0 hqn hq20 hq2n (HFZC.out.trans hst (fun b hb h=>by
          rcases h with h|h|h
          · exact absurd hb (by rw[hszw,h];exact Nat.not_lt.2 hgk.2.1)
          · exact absurd hb (by rw[hszw,h];exact Nat.not_lt.2 hn)
          · exact .inr h))
       · have:=z0n (B':=0) hk9 (fun _ _=>Nat.zero_le _)
         simpa [kin,List.append_assoc] using this
      obtain⟨g9,rfl,hg9⟩:∃g,A9=some ⟨g,0,none⟩∧(w8.heap.size≤g∧g<w9.heap.size):=by
       cases A9 with
       | none =>
         rcases O9.out.2 with⟨e,h0⟩|⟨g,cap,cur,e,_⟩
         · omega
         · cases e
       | some a =>
         obtain⟨g,rfl⟩:=HA9.out a rfl
         exact⟨g,rfl,hob9 g rfl⟩
      by_cases h5:t.l.length+1≤4
      · have h5':((t.l.length:Int)+1)≤4:=by omega
        have H5:=zhd h5
        go_wp2_with fail
        refine ret4 (p:=8) (g:=w.heap.size+1) rfl rfl (z2j (i:=1) (z2j (i:=0) HU11.out (.slice none 0 0)) (.slice none 0 0)) Tryz.underlying200 rfl (by kernel_rfl) rfl ?_
        have hFU:=((Fr.refl (fun b=>b=w.heap.size+1) (w9.setCell ⟨n,2,none⟩ (.slice (some ⟨g9,0,none⟩) (kvs.length+1) c9))).setCell (p:=⟨w.heap.size+1,0,none⟩) (.inr rfl) (.slice none 0 0)).setCell (p:=⟨w.heap.size+1,1,none⟩) (.inr rfl) (.slice none 0 0)
        have hsf:=hFU.size
        rw[hs11] at hsf
        obtain⟨a1,a2,a3,a4,a5,a6,a7,a8,a9,a10,a11,a12,a13⟩:=HALL.out _ [g9] hFU (fun b hb=>by rw[List.mem_singleton.1 hb];exact⟨hg9.1,Nat.lt_of_lt_of_le hg9.2 hsf⟩)
        have hbnf:=hFU.blk HBN11.out (show ¬n=w.heap.size+1 from fun e=>Nat.not_lt.2 hn (by rw[e];exact Nat.lt_succ_self _))
        refine fin hq2 hq20 hq2n (ns:=[n,g9]) (cA:=ownN c2 [g9] q2) (fun b hb=>?_) a1 a2 a3 a4 HGL2.out ?_
        · rcases(show b=n∨b=g9 by simpa using hb) with h|h
          · rw[h];exact⟨a11,Nat.le_trans (Nat.le_add_right _ 2) hn,Nat.lt_of_lt_of_le hnwc a12⟩
          · rw[h];exact⟨z8m (by simp),Nat.le_trans (Nat.le_trans (Nat.le_trans (Nat.le_trans hs1 hs5) hsc) hs8) hg9.1,Nat.lt_of_lt_of_le hg9.2 hsf⟩
        · rw[←HMORE.out]
          exact zbk HD0.out hi hkn1 hlm H5.out HKV.out EX.out HKSH.out HFL.out HP2.out hbnf (ItemsAt.ofCells (by rw[show(t.l.take i++x2::t.l.drop i).length=t.l.length+1 by simp;omega];exact a8) a9) a10 a5 a6 a7 E2.out E2b.out E3.out E4.out (Nat.le_trans (Nat.le_add_right _ 2) hn) (Nat.lt_of_lt_of_le (Nat.lt_of_lt_of_le hnlw hs5) hn1) (n2:=wc.heap.size) (Nat.le_trans hs8 hg9.1) (Nat.le_trans (Nat.le_trans hs1 hs5) hn1) hn2 HRD.out.2 (fun b o hb=>⟨Rep.cl0 hb E1.out,Rep.cl0 hb E1b.out⟩) HRD.out.1
      · have h5':¬((t.l.length:Int)+1)≤4:=by omega
        have h4:t.l.length=4:=by omega
        obtain⟨g8,rfl,hg8⟩:∃g,A8=some ⟨g,0,none⟩∧(wc.heap.size≤g∧g<w8.heap.size):=by
         cases A8 with
         | none =>
           rcases O8.out.2 with⟨e,h0⟩|⟨g,cap,cur,e,_⟩
           · omega
           · cases e
         | some a =>
           obtain⟨g,rfl⟩:=HA8.out a rfl
           exact⟨g,rfl,hob8 g rfl⟩
        have hkv5:kvs.length=5:=by omega
        have hll:(t.l.take i++x2::t.l.drop i).length=t.l.length+1:=by simp;omega
        obtain⟨y2,hy2⟩:∃y,(t.l.take i++x2::t.l.drop i)[2]?=some y:=⟨_,List.getElem?_eq_getElem (by omega)⟩
        obtain⟨_,_,he8,hc81,hc82⟩:=(Row.ofOwn O8.out (F:=fun _=>True) (fun _ _=>trivial)).form
        injection he8 with e1 _ e3
        subst e3
        clear e1
        obtain⟨_,_,he9,hc91,hc92⟩:=(Row.ofOwn O9.out (F:=fun _=>True) (fun _ _=>trivial)).form
        injection he9 with e1 _ e3
        subst e3
        clear e1
        obtain⟨_,_,_,_,_,_,_,r8,r9,_,_,_,_⟩:=HALL.out (w9.setCell ⟨n,2,none⟩ (.slice (some ⟨g9,0,none⟩) (kvs.length+1) c9)) [] (Fr.refl _ _) (fun b hb=>by simp at hb)
        obtain⟨kv5,vv5,i1,i2,i3,i4⟩:=r9.at_ 2 (by omega)
        have hyy:(t.l.take i++x2::t.l.drop i)[2]'(by omega)=y2:=by rw[List.getElem?_eq_getElem (by omega)] at hy2;injection hy2
        rw[hyy] at i3 i4
        obtain⟨g8',o8',he,_,hcl8⟩:=r8.cells i1
        injection he with he
        injection he with e1 e2 _
        subst e1;subst e2
        have v4:=hcl8 4 _ i1
        have v5:=hcl8 5 _ i2
        rw[Nat.zero_add] at v4 v5
        obtain⟨kA5,kc5,rfl,-⟩:=i3.form
        obtain⟨vA5,vc5,rfl,-⟩:=i4.form
        have HI1:=zhd i1
        have HI2:=zhd i2
        have HY2:=zhd hy2
        have HLL:=zhd hll
        have H4:=zhd h4
        have HK5:=zhd hkv5
        unfold maxLen at hc82 hc92
        have hI1:(2:Int)≤(c8:Int):=by omega
        have hI2:(3:Int)≤(t.l.length:Int)+1:=by omega
        have hI3:(2:Int)<(t.l.length:Int)+1:=by omega
        have hI4:(t.l.length:Int)+1≤(c8:Int):=by omega
        have hI5:(3:Int)≤(c9:Int):=by omega
        have hI6:(3:Int)≤(kvs.length:Int)+1:=by omega
        have hI7:(kvs.length:Int)+1≤(c9:Int):=by omega
        have hc83:¬c8=3:=by omega
        have hc93:¬c9=3:=by omega
        have HB8:Hid (5≤c8∧6≤c9∧c8≤maxLen∧c9≤maxLen):=zhd ⟨by omega,by omega,by unfold maxLen;omega,by unfold maxLen;omega⟩
        have hAB:=(((Fr.refl C0 (w9.setCell ⟨n,2,none⟩ (.slice (some ⟨g9,0,none⟩) (kvs.length+1) c9))).alloc (.cells #[.int .i64 0,.slice (some ⟨g8,0,none⟩) 2 2,.slice (some ⟨g9,0,none⟩) 3 3] 198)).alloc (.cells #[.int .i64 0,.slice (some ⟨g8,6,none⟩) (t.l.length-2) (c8-3),.slice (some ⟨g9,3,none⟩) (kvs.length-2) (c9-3)] 198)).blk HU11.out (fun h=>h)
        have hBA:=(((Fr.refl C0 (w9.setCell ⟨n,2,none⟩ (.slice (some ⟨g9,0,none⟩) (kvs.length+1) c9))).alloc (.cells #[.int .i64 0,.slice (some ⟨g8,6,none⟩) (t.l.length-2) (c8-3),.slice (some ⟨g9,3,none⟩) (kvs.length-2) (c9-3)] 198)).alloc (.cells #[.int .i64 0,.slice (some ⟨g8,0,none⟩) 2 2,.slice (some ⟨g9,0,none⟩) 3 3] 198)).blk HU11.out (fun h=>h)
        have ua0:=z2k hAB 0 rfl
        have ua1:=z2k hAB 1 rfl
        have za0:=z2i 0 hAB
        have za1:=z2i 1 hAB
        have ub0:=z2k hBA 0 rfl
        have ub1:=z2k hBA 1 rfl
        have zb0:=z2i 0 hBA
        have zb1:=z2i 1 hBA
        have HAB:=zhd hAB
        have HBA:=zhd hBA
        have HAA:Hid ((((w9.setCell ⟨n,2,none⟩ (.slice (some ⟨g9,0,none⟩) (kvs.length+1) c9)).alloc (.cells #[.int .i64 0,.slice (some ⟨g8,0,none⟩) 2 2,.slice (some ⟨g9,0,none⟩) 3 3] 198)).alloc (.cells #[.int .i64 0,.slice (some ⟨g8,6,none⟩) (t.l.length-2) (c8-3),.slice (some ⟨g9,3,none⟩) (kvs.length-2) (c9-3)] 198)).heap[w9.heap.size]?=some (.cells #[.int .i64 0,.slice (some ⟨g8,0,none⟩) 2 2,.slice (some ⟨g9,0,none⟩) 3 3] 198 (0,0))):=zhd (((Fr.refl C0 _).alloc _).blk (by have:=heap_alloc_new (w9.setCell ⟨n,2,none⟩ (.slice (some ⟨g9,0,none⟩) (kvs.length+1) c9)) (.cells #[.int .i64 0,.slice (some ⟨g8,0,none⟩) 2 2,.slice (some ⟨g9,0,none⟩) 3 3] 198);rwa [hs11] at this) (fun h=>h))
        have HAB2:Hid ((((w9.setCell ⟨n,2,none⟩ (.slice (some ⟨g9,0,none⟩) (kvs.length+1) c9)).alloc (.cells #[.int .i64 0,.slice (some ⟨g8,0,none⟩) 2 2,.slice (some ⟨g9,0,none⟩) 3 3] 198)).alloc (.cells #[.int .i64 0,.slice (some ⟨g8,6,none⟩) (t.l.length-2) (c8-3),.slice (some ⟨g9,3,none⟩) (kvs.length-2) (c9-3)] 198)).heap[w9.heap.size+1]?=some (.cells #[.int .i64 0,.slice (some ⟨g8,6,none⟩) (t.l.length-2) (c8-3),.slice (some ⟨g9,3,none⟩) (kvs.length-2) (c9-3)] 198 (0,0))):=zhd (by have:=heap_alloc_new ((w9.setCell ⟨n,2,none⟩ (.slice (some ⟨g9,0,none⟩) (kvs.length+1) c9)).alloc (.cells #[.int .i64 0,.slice (some ⟨g8,0,none⟩) 2 2,.slice (some ⟨g9,0,none⟩) 3 3] 198)) (.cells #[.int .i64 0,.slice (some ⟨g8,6,none⟩) (t.l.length-2) (c8-3),.slice (some ⟨g9,3,none⟩) (kvs.length-2) (c9-3)] 198);rwa [show((w9.setCell ⟨n,2,none⟩ (.slice (some ⟨g9,0,none⟩) (kvs.length+1) c9)).alloc (.cells #[.int .i64 0,.slice (some ⟨g8,0,none⟩) 2 2,.slice (some ⟨g9,0,none⟩) 3 3] 198)).heap.size=w9.heap.size+1 by simp[go_sem]] at this)
        have HBB:Hid ((((w9.setCell ⟨n,2,none⟩ (.slice (some ⟨g9,0,none⟩) (kvs.length+1) c9)).alloc (.cells #[.int .i64 0,.slice (some ⟨g8,6,none⟩) (t.l.length-2) (c8-3),.slice (some ⟨g9,3,none⟩) (kvs.length-2) (c9-3)] 198)).alloc (.cells #[.int .i64 0,.slice (some ⟨g8,0,none⟩) 2 2,.slice (some ⟨g9,0,none⟩) 3 3] 198)).heap[w9.heap.size]?=some (.cells #[.int .i64 0,.slice (some ⟨g8,6,none⟩) (t.l.length-2) (c8-3),.slice (some ⟨g9,3,none⟩) (kvs.length-2) (c9-3)] 198 (0,0))):=zhd (((Fr.refl C0 _).alloc _).blk (by have:=heap_alloc_new (w9.setCell ⟨n,2,none⟩ (.slice (some ⟨g9,0,none⟩) (kvs.length+1) c9)) (.cells #[.int .i64 0,.slice (some ⟨g8,6,none⟩) (t.l.length-2) (c8-3),.slice (some ⟨g9,3,none⟩) (kvs.length-2) (c9-3)] 198);rwa [hs11] at this) (fun h=>h))
        have HBA2:Hid ((((w9.setCell ⟨n,2,none⟩ (.slice (some ⟨g9,0,none⟩) (kvs.length+1) c9)).alloc (.cells #[.int .i64 0,.slice (some ⟨g8,6,none⟩) (t.l.length-2) (c8-3),.slice (some ⟨g9,3,none⟩) (kvs.length-2) (c9-3)] 198)).alloc (.cells #[.int .i64 0,.slice (some ⟨g8,0,none⟩) 2 2,.slice (some ⟨g9,0,none⟩) 3 3] 198)).heap[w9.heap.size+1]?=some (.cells #[.int .i64 0,.slice (some ⟨g8,0,none⟩) 2 2,.slice (some ⟨g9,0,none⟩) 3 3] 198 (0,0))):=zhd (by have:=heap_alloc_new ((w9.setCell ⟨n,2,none⟩ (.slice (some ⟨g9,0,none⟩) (kvs.length+1) c9)).alloc (.cells #[.int .i64 0,.slice (some ⟨g8,6,none⟩) (t.l.length-2) (c8-3),.slice (some ⟨g9,3,none⟩) (kvs.length-2) (c9-3)] 198)) (.cells #[.int .i64 0,.slice (some ⟨g8,0,none⟩) 2 2,.slice (some ⟨g9,0,none⟩) 3 3] 198);rwa [show((w9.setCell ⟨n,2,none⟩ (.slice (some ⟨g9,0,none⟩) (kvs.length+1) c9)).alloc (.cells #[.int .i64 0,.slice (some ⟨g8,6,none⟩) (t.l.length-2) (c8-3),.slice (some ⟨g9,3,none⟩) (kvs.length-2) (c9-3)] 198)).heap.size=w9.heap.size+1 by simp[go_sem]] at this)
        have hnu:¬n=w.heap.size+1:=fun e=>Nat.not_lt.2 hn (by rw[e];exact Nat.lt_succ_self _)
        have hgu8:¬g8=w.heap.size+1:=fun e=>Nat.not_lt.2 hg8.1 (by rw[e];exact Nat.lt_of_lt_of_le (Nat.lt_succ_self _) (Nat.le_trans (Nat.le_trans hs0 hs5) hsc))
        have HNU:Hid (∀b,w9.heap.size≤b→¬b=w.heap.size+1):=zhd (fun b hb e=>Nat.not_lt.2 hb (by rw[e];exact Nat.lt_of_lt_of_le (Nat.lt_succ_self _) (Nat.le_trans (Nat.le_trans (Nat.le_trans (Nat.le_trans hs0 hs5) hsc) hs8) hs89)))
        have HTWO:Hid (∀(wf:World) (na nb:Nat),Fr (fun b=>b=w.heap.size+1) (w9.setCell ⟨n,2,none⟩ (.slice (some ⟨g9,0,none⟩) (kvs.length+1) c9)) wf→w9.heap.size≤na→w9.heap.size≤nb→na≠nb→wf.heap[na]?=some (.cells #[.int .i64 0,.slice (some ⟨g8,0,none⟩) 2 2,.slice (some ⟨g9,0,none⟩) 3 3] 198 (0,0))→wf.heap[nb]?=some (.cells #[.int .i64 0,.slice (some ⟨g8,6,none⟩) (t.l.length-2) (c8-3),.slice (some ⟨g9,3,none⟩) (kvs.length-2) (c9-3)] 198 (0,0))→PutRes c rn q w (pgs D) D.blocks (d+1) m t x wp tp gone (.returned (.tuple #[wInner na,wInner nb,.agg #[.slice kA5 y2.1.length kc5,.slice vA5 y2.2.length vc5],.bool (decide (getL x.1 (flat d t.ks[i])=none))])) wf):=by
         refine zhd fun wf na nb hFU hna hnb hne hba hbb=>?_
         have hla:=(Array.getElem?_eq_some_iff.1 hba).1
         have hlb:=(Array.getElem?_eq_some_iff.1 hbb).1
         have hsF:=hFU.size
         rw[hs11] at hsF
         have hm3:∀b,b∈[na,nb,g9]→b=na∨b=nb∨b=g9:=fun b h=>by simpa using h
         have hge:∀b,b∈[na,nb,g9]→w8.heap.size≤b∧b<wf.heap.size:=fun b h=>by
          rcases hm3 b h with h|h|h
          · rw[h];exact⟨Nat.le_trans hs89 hna,hla⟩
          · rw[h];exact⟨Nat.le_trans hs89 hnb,hlb⟩
          · rw[h];exact⟨hg9.1,Nat.lt_of_lt_of_le hg9.2 hsF⟩
         obtain⟨a1,a2,a3,a4,a5,a6,a7,a8,a9,a10,a11,a12,a13⟩:=HALL.out wf [na,nb,g9] hFU hge
         obtain⟨m1',m2',m3',m4'⟩:=HB8.out
         have h4:=H4.out
         have hk5:=HK5.out
         have hll:=HLL.out
         have hws:w.heap.size≤w8.heap.size:=Nat.le_trans (Nat.le_trans (Nat.le_trans hs1 hs5) hsc) hs8
         rw[show t.l.length-2=2 by rw[h4],show kvs.length-2=3 by rw[hk5]] at hbb
         have hlA:((t.l.take i++x2::t.l.drop i).take 2).length=2:=by rw[List.length_take,hll,h4];rfl
         have hlB:((t.l.take i++x2::t.l.drop i).drop 3).length=2:=by rw[List.length_drop,hll,h4]
         have hrA:=(a8.take (i:=2) (by rw[h4];decide)).cap (c':=2) (Nat.le_refl _) (by unfold maxLen;decide)
         have hrB:=a8.drop (i:=3) (by rw[h4];decide)
         rw[if_neg (show ¬c8=3 from fun e=>by rw[e] at m1';exact absurd m1' (by decide))] at hrB
         simp only[Option.map_some,add0] at hrB
         rw[show t.l.length+1-3=2 by rw[h4]] at hrB
         obtain⟨kv',vv',j1,j2,j3,j4⟩:=a9.at_ 2 (by rw[hll,h4];decide)
         rw[HI1.out] at j1
         rw[HI2.out] at j2
         injection j1 with j1
         injection j2 with j2
         subst j1;subst j2
         have hyy:(t.l.take i++x2::t.l.drop i)[2]'(by rw[hll,h4];decide)=y2:=by
          have:=HY2.out
          rw[List.getElem?_eq_getElem (by rw[hll,h4];decide)] at this
          injection this
         rw[hyy] at j3 j4
         refine fin hq2 hq20 hq2n (ns:=[na,nb,g9]) (cA:=ownN c2 [na,nb,g9] q2) (fun b hb=>⟨z8m hb,Nat.le_trans hws (hge b hb).1,(hge b hb).2⟩) a1 a2 a3 a4 HGL2.out ?_
         rw[←HMORE.out]
         exact zbl HD0.out hi hkn1 h4 HKV.out EX.out HKSH.out HFL.out HP2.out hba hbb (ItemsAt.ofCells (by rw[hlA];exact hrA) (a9.take 2)) (ItemsAt.ofCells (by rw[hlB];exact hrB) (a9.drop 3)) HY2.out j3 j4 a10 a5 a6 a7 E2.out E2b.out E3.out E4.out (n2:=wc.heap.size) (Nat.le_trans (Nat.le_trans hs8 hs89) hna) (Nat.le_trans (Nat.le_trans hs8 hs89) hnb) (Nat.le_trans hs8 hg9.1) hne (fun e=>Nat.not_lt.2 hna (by rw[e];exact hg9.2)) (fun e=>Nat.not_lt.2 hnb (by rw[e];exact hg9.2)) (Nat.le_trans (Nat.le_trans hs1 hs5) hn1) hn2 HRD.out.2 (fun b o hb=>⟨Rep.cl0 hb E1.out,Rep.cl0 hb E1b.out⟩) HRD.out.1
        clear hAB hBA r8 r9 i1 i2 i3 i4 hcl8 h4 hkv5 hll hy2 hyy
        go_wp2_with fail
        refine z1z (Fr (fun b=>b=w.heap.size+1) (w9.setCell ⟨n,2,none⟩ (.slice (some ⟨g9,0,none⟩) (kvs.length+1) c9))) [] (by kernel_rfl) ?_
        have hSw0:(Fr (fun b=>b=w.heap.size+1) (w9.setCell ⟨n,2,none⟩ (.slice (some ⟨g9,0,none⟩) (kvs.length+1) c9))) _:=(Fr.refl _ _).drew
        refine tk 0 hSw0 ?_
        refine tk 1 hSw0 ?_
        refine tk 2 hSw0 ?_
        refine tk 3 hSw0 ?_ (hy:=by intro w_ hS_;have b0:=hS_.cell l1 hnu;have b1:=hS_.cell l2 hnu;have b2:=hS_.cell v4 hgu8;have b3:=hS_.cell v5 hgu8;first|(go_simp;done)|(go_simp;with_reducible rfl))
        refine tk 4 hSw0 ?_
        refine tk 5 hSw0 ?_
        refine tk 6 hSw0 ?_
        refine tk 7 hSw0 ?_
        refine tk 8 hSw0 ?_ (hy:=by intro w_ hS_;have b0:=hS_.cell l1 hnu;have b1:=hS_.cell l2 hnu;have b2:=hS_.cell v4 hgu8;have b3:=hS_.cell v5 hgu8;first|(go_simp;done)|(go_simp;with_reducible rfl))
        refine tk 9 hSw0 ?_
        refine tk 10 hSw0 ?_
        refine tk 13 hSw0 ?_
        refine tk 14 hSw0 ?_
        refine tk 15 hSw0 ?_
        refine tk 16 hSw0 ?_ (hy:=by intro w_ hS_;have b0:=hS_.cell l1 hnu;have b1:=hS_.cell l2 hnu;have b2:=hS_.cell v4 hgu8;have b3:=hS_.cell v5 hgu8;first|(go_simp;done)|(go_simp;with_reducible rfl))
        refine tk 17 hSw0 ?_
        refine tk 18 hSw0 ?_
        refine tk 19 hSw0 ?_
        refine tk 20 hSw0 ?_
        refine tk 21 hSw0 ?_ (hy:=by intro w_ hS_;have b0:=hS_.cell l1 hnu;have b1:=hS_.cell l2 hnu;have b2:=hS_.cell v4 hgu8;have b3:=hS_.cell v5 hgu8;first|(go_simp;done)|(go_simp;with_reducible rfl))
        refine tk 22 hSw0 ?_
        refine tk 23 hSw0 ?_
        refine tk 26 hSw0 ?_
        refine tk 27 hSw0 ?_
        refine tk 28 hSw0 ?_
        refine tk 29 hSw0 ?_ (hy:=by intro w_ hS_;have b0:=hS_.cell l1 hnu;have b1:=hS_.cell l2 hnu;have b2:=hS_.cell v4 hgu8;have b3:=hS_.cell v5 hgu8;first|(go_simp;done)|(go_simp;with_reducible rfl))
        refine tk 30 hSw0 ?_
        refine tk 31 hSw0 ?_ (hy:=by intro w_ hS_;have b0:=hS_.cell l1 hnu;have b1:=hS_.cell l2 hnu;have b2:=hS_.cell v4 hgu8;have b3:=hS_.cell v5 hgu8;first|(go_simp;done)|(go_simp;with_reducible rfl))
        refine tk 32 hSw0 ?_
        refine z1x 11 24 rfl rfl (by kernel_rfl) rfl rfl (fun K hK=>?_) (fun K hK=>?_)
        · skip
          go_simp
          refine hK.out _ _ ?kS10 (fun hSw1=>?kR10)
          case kS10=>first|exact((Fr.refl _ _).alloc _).drew|exact(((Fr.refl _ _).alloc _).alloc _).drew
          clear hK K
          try simp only[Act.put,zs1,zs2,zs3]
          refine tk 12 hSw1 ?_
          refine tk 33 hSw1 ?_
          refine one_ 24 rfl (fun K hK=>?_)
          go_simp
          refine hK.out _ _ ?kS11 (fun hSw2=>?kR11)
          case kS11=>first|exact((Fr.refl _ _).alloc _).drew|exact(((Fr.refl _ _).alloc _).alloc _).drew
          clear hK K
          try simp only[Act.put,zs1,zs2,zs3]
          refine tk 25 hSw2 ?_
          refine tk 34 hSw2 ?_
          refine one_ 35 rfl (fun K hK=>?_)
          go_simp
          refine hK.out _ _ ?kS12 (fun hSw3=>?kR12)
          case kS12=>exact(((((Fr.refl (fun b=>b=w.heap.size+1) _).alloc _).alloc _).setCell (p:=⟨w.heap.size+1,0,none⟩) (.inr rfl) _).setCell (p:=⟨w.heap.size+1,1,none⟩) (.inr rfl) _).drew
          clear hK K
          try simp only[Act.put,zs1,zs2,zs3]
          refine tk 36 hSw3 ?_
          refine z1y (by kernel_rfl) ?_ _
          go_wp2_with fail
          first
           | (refine ret4 (p := 8) (g := w.heap.size + 1) rfl rfl (z2j (i := 1) (z2j (i := 0) HAB.out (.slice kA5 y2.1.length kc5)) (.slice vA5 y2.2.length vc5)) Tryz.underlying200 rfl (by kernel_rfl) rfl ?_
              refine HTWO.out _ w9.heap.size (w9.heap.size+1) (by assumption) (Nat.le_refl _) (Nat.le_succ _) (Nat.ne_of_lt (Nat.lt_succ_self _)) ?_ ?_
              · exact((((Fr.refl (fun b=>b=w.heap.size+1) _).setCell (p:=⟨w.heap.size+1,0,none⟩) (.inr rfl) _).setCell (p:=⟨w.heap.size+1,1,none⟩) (.inr rfl) _).drew).blk HAA.out (HNU.out _ (Nat.le_refl _))
              · exact((((Fr.refl (fun b=>b=w.heap.size+1) _).setCell (p:=⟨w.heap.size+1,0,none⟩) (.inr rfl) _).setCell (p:=⟨w.heap.size+1,1,none⟩) (.inr rfl) _).drew).blk HAB2.out (HNU.out _ (Nat.le_succ _)))
           | (refine ret4 (p := 8) (g := w.heap.size + 1) rfl rfl (z2j (i := 1) (z2j (i := 0) HBA.out (.slice kA5 y2.1.length kc5)) (.slice vA5 y2.2.length vc5)) Tryz.underlying200 rfl (by kernel_rfl) rfl ?_
              refine HTWO.out _ (w9.heap.size+1) w9.heap.size (by assumption) (Nat.le_succ _) (Nat.le_refl _) (Nat.ne_of_gt (Nat.lt_succ_self _)) ?_ ?_
              · exact((((Fr.refl (fun b=>b=w.heap.size+1) _).setCell (p:=⟨w.heap.size+1,0,none⟩) (.inr rfl) _).setCell (p:=⟨w.heap.size+1,1,none⟩) (.inr rfl) _).drew).blk HBA2.out (HNU.out _ (Nat.le_succ _))
              · exact((((Fr.refl (fun b=>b=w.heap.size+1) _).setCell (p:=⟨w.heap.size+1,0,none⟩) (.inr rfl) _).setCell (p:=⟨w.heap.size+1,1,none⟩) (.inr rfl) _).drew).blk HBB.out (HNU.out _ (Nat.le_refl _)))
        · skip
          go_simp
          refine hK.out _ _ ?kS13 (fun hSw4=>?kR13)
          case kS13=>first|exact((Fr.refl _ _).alloc _).drew|exact(((Fr.refl _ _).alloc _).alloc _).drew
          clear hK K
          try simp only[Act.put,zs1,zs2,zs3]
          refine tk 25 hSw4 ?_
          refine one_ 11 rfl (fun K hK=>?_)
          go_simp
          refine hK.out _ _ ?kS14 (fun hSw5=>?kR14)
          case kS14=>first|exact((Fr.refl _ _).alloc _).drew|exact(((Fr.refl _ _).alloc _).alloc _).drew
          clear hK K
          try simp only[Act.put,zs1,zs2,zs3]
          refine tk 12 hSw5 ?_
          refine tk 33 hSw5 ?_
          refine tk 34 hSw5 ?_
          refine one_ 35 rfl (fun K hK=>?_)
          go_simp
          refine hK.out _ _ ?kS15 (fun hSw6=>?kR15)
          case kS15=>exact(((((Fr.refl (fun b=>b=w.heap.size+1) _).alloc _).alloc _).setCell (p:=⟨w.heap.size+1,0,none⟩) (.inr rfl) _).setCell (p:=⟨w.heap.size+1,1,none⟩) (.inr rfl) _).drew
          clear hK K
          try simp only[Act.put,zs1,zs2,zs3]
          refine tk 36 hSw6 ?_
          refine z1y (by kernel_rfl) ?_ _
          go_wp2_with fail
          first
           | (refine ret4 (p := 8) (g := w.heap.size + 1) rfl rfl (z2j (i := 1) (z2j (i := 0) HAB.out (.slice kA5 y2.1.length kc5)) (.slice vA5 y2.2.length vc5)) Tryz.underlying200 rfl (by kernel_rfl) rfl ?_
              refine HTWO.out _ w9.heap.size (w9.heap.size+1) (by assumption) (Nat.le_refl _) (Nat.le_succ _) (Nat.ne_of_lt (Nat.lt_succ_self _)) ?_ ?_
              · exact((((Fr.refl (fun b=>b=w.heap.size+1) _).setCell (p:=⟨w.heap.size+1,0,none⟩) (.inr rfl) _).setCell (p:=⟨w.heap.size+1,1,none⟩) (.inr rfl) _).drew).blk HAA.out (HNU.out _ (Nat.le_refl _))
              · exact((((Fr.refl (fun b=>b=w.heap.size+1) _).setCell (p:=⟨w.heap.size+1,0,none⟩) (.inr rfl) _).setCell (p:=⟨w.heap.size+1,1,none⟩) (.inr rfl) _).drew).blk HAB2.out (HNU.out _ (Nat.le_succ _)))
           | (refine ret4 (p := 8) (g := w.heap.size + 1) rfl rfl (z2j (i := 1) (z2j (i := 0) HBA.out (.slice kA5 y2.1.length kc5)) (.slice vA5 y2.2.length vc5)) Tryz.underlying200 rfl (by kernel_rfl) rfl ?_
              refine HTWO.out _ (w9.heap.size+1) w9.heap.size (by assumption) (Nat.le_succ _) (Nat.le_refl _) (Nat.ne_of_gt (Nat.lt_succ_self _)) ?_ ?_
              · exact((((Fr.refl (fun b=>b=w.heap.size+1) _).setCell (p:=⟨w.heap.size+1,0,none⟩) (.inr rfl) _).setCell (p:=⟨w.heap.size+1,1,none⟩) (.inr rfl) _).drew).blk HBA2.out (HNU.out _ (Nat.le_succ _))
              · exact((((Fr.refl (fun b=>b=w.heap.size+1) _).setCell (p:=⟨w.heap.size+1,0,none⟩) (.inr rfl) _).setCell (p:=⟨w.heap.size+1,1,none⟩) (.inr rfl) _).drew).blk HBB.out (HNU.out _ (Nat.le_refl _)))
end
end Go.Proofs.YtidalepbkljkpaaGreat
