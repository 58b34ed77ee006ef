import Derived.Test.YtidalepbkljkpaaGreatLocalSpaces22
set_option linter.all false
namespace Go.Proofs.YtidalepbkljkpaaGreat
open Go.RowKit Go.H
set_option maxHeartbeats 2000000
set_option maxRecDepth 100000
section
theorem zbm {r rn q st tp wp d:Nat} {S:SSt} {D:DSt} {x:KV} {kv vv:Value} (hq0:q≠0) (hqr:q≠r) (hqn:q≠rn) (hr0:rn≠0) {m:Nat} {c:Nat→Nat} {w:World} {t:T} {v:Value} {gone:List Nat}
 (hh:Hd c r w tp st S D) (hc:Cl w c) (hw:WorkAt c q w wp tp gone) (hr:Rep c rn w (pgs D) D.blocks False (d+1) t v) (hd0:¬d=0) (ih:PutIH r rn q st tp wp S D x kv vv d) (hs:Shape (d+1) m t) (hm:1≤m) (hso:Sorted (flat (d+1) t)) (hk:BytesAt (Dt c) w kv x.1) (hv:BytesAt (Dt c) w vv x.2) (hx:KVok x) (hg:gone.length+(d+1)≤1000000) (hwh:(findL x.1 t.l).2=true) :
 Calls Tryz.prog 148 #[.pointer (some ⟨wp,0,none⟩),v,.agg #[kv,vv]] w (PutRes c rn q w (pgs D) D.blocks (d+1) m t x wp tp gone):=by
 obtain⟨q2,hq2,hq20,hq2r,hq2n⟩:∃q2,q2≠q∧q2≠0∧q2≠r∧q2≠rn:=⟨q+r+rn+1,by omega,by omega,by omega,by omega⟩
 have HC00:Hid (∃c0,c0=ownN c [w.heap.size+1] q2):=zhd ⟨_,rfl⟩
 obtain⟨c0,hc0⟩:=HC00.out
 have hagc0:Ag w.heap.size c c0:=by rw[hc0];exact z8o (Ag.refl _ _) (fun b hb=>by simp at hb;omega)
 have hu:c0 (w.heap.size+1)=q2:=by rw[hc0];exact z8m (by simp)
 have hcl0:∀w_:World,w.heap.size+2≤w_.heap.size→Cl w_ c0:=fun w_ hs_=>by rw[hc0];exact z8p (hc.mono (by omega)) (fun b hb=>by simp at hb;omega)
 have HCP:=zhd (fun (w_:World) (hf:Fr C0 w w_) (hs_:w.heap.size+2≤w_.heap.size)=>z8i hq0 hqr hqn ((hh.ag hagc0).fr0 hf) (hcl0 w_ hs_) ((hw.ag hagc0).fr0 hf) ((Rep.ag hagc0 hr).fr0 hf) hs hm (by omega))
 have hfz:∀b,w.heap.size≤b→b≠w.heap.size+1→c0 b=0:=fun b hb hne=>by rw[hc0,z8n (by simpa using hne)];exact hc b hb
 have HFZ:=zhd hfz
 have HCL0:=zhd hcl0
 have HHD:=zhd (fun (w_:World) (hf:Fr C0 w w_)=>(hh.ag hagc0).fr0 hf)
 have HRD:Hid (sumN (t.ks.map (dirtyN d))≤dirtyN (d+1) t∧∀b o,w.heap.size≤b→sumN (t.ks.map (cnt d (.cl b o)))=0):=zhd ⟨zb6 hr,fun b o hb=>by have h1:=Rep.cl0 (o:=o) hb hr;have h2:=zb4 d b o t;omega⟩
 have HAG0:=zhd hagc0
 have HU:=zhd hu
 obtain⟨tx,y,rfl⟩:=hr.iface
 obtain⟨kA,kc,rfl,-⟩:=hk.form
 obtain⟨vA,vc,rfl,-⟩:=hv.form
 have HK:=zhd hk
 have HV:=zhd hv
 have HC:=zhd hc
 have hl4:t.l.length≤4:=by obtain⟨nm,l,ks⟩:=t;exact hs.2.1
 have hlm:m≤t.l.length:=by obtain⟨nm,l,ks⟩:=t;exact hs.1
 have HKV:Hid (∀y∈t.l,KVok y):=zhd (by obtain⟨nm,l,ks⟩:=t;exact hs.2.2.1)
 have HFL:Hid (flat (d+1) t=inter t.l (t.ks.map (flat d))):=zhd (by obtain⟨nm,l,ks⟩:=t;show(if d=0 then _ else _)=_;rw[if_neg hd0];rfl)
 have hkn:t.ks.length=t.l.length+1∧∀k∈t.ks,Shape d 2 k:=by obtain⟨nm,l,ks⟩:=t;have:=hs.2.2.2;rw[if_neg hd0] at this;exact this
 have HKSH:=zhd hkn.2
 have hkn1:=hkn.1
 have HD0:=zhd hd0
 have HIH:=zhd ih
 clear hkn ih
 have HX:=zhd hx
 rw[HFL.out] at hso
 have HLP:=zhd (zan (x:=x) (by simpa using hkn1) hso)
 have HSHP:=zhd hs
 have HWH:=zhd hwh
 clear hwh
 clear hh hc hw hr hs hso hk hv hx hc0 hagc0 hu hcl0 hfz HC00
 go_enter Tryz.func148,Tryz.ntmps148
 go_wp2_with fail
 have F0:=zhd (((Fr.refl C0 w).alloc (.cells #[.slice kA x.1.length kc,.slice vA x.2.length vc] 200)).alloc (.cells #[.slice none 0 0,.slice none 0 0] 200))
 have HCP0:=zhd (HCP.out _ F0.out (by simp))
 refine HCP0.out.mono ?_
 clear HCP HCP0
 rintro e w1 ⟨f1,v1,n,lv,kvv,xs,kvs,c1,rfl,⟨o1,hp⟩,hks,hxl,hcells,hn,hcn,hlo,hko,hln,ha1,hcl1,hw1⟩
 rcases hp with⟨hd,_⟩|⟨_,rfl,hb1,ok1⟩
 case inl=>exact absurd hd hd0
 have F1:=zhd f1
 have HB1:=zhd hb1
 have HCE:=zhd hcells
 have HLO:=zhd hlo
 have HA1:=zhd ha1
 have HCL1:=zhd hcl1
 have HW1:=zhd hw1
 have HXL:=zhd hxl
 have HKS:=zhd hks
 have HKO:=zhd hko
 have hkl:=All2.length hks
 obtain⟨KA,kcap,rfl,hKA⟩:=z0o ok1
 have HOK1:=zhd ok1
 have HKA:=zhd hKA
 rw[show xs.length / 2=t.l.length by omega] at o1
 obtain⟨A1,ca1,rfl,hA1⟩:=z0o o1
 have O1:=zhd o1
 have HA1':=zhd hA1
 have m1:=z2k hb1 1 rfl
 obtain⟨gk,rfl,hgk⟩:∃g,KA=some ⟨g,0,none⟩∧(g<w1.heap.size∧((w.alloc (.cells #[.slice kA x.1.length kc,.slice vA x.2.length vc] 200)).alloc (.cells #[.slice none 0 0,.slice none 0 0] 200)).heap.size≤g∧c1 g=0∧g≠n∧¬(Value.slice A1 t.l.length ca1).ownBlock=some g):=by
  cases KA with
  | none =>
    rcases HOK1.out.2 with⟨e,h0⟩|⟨g,cap,cur,e,_⟩
    · omega
    · cases e
  | some a =>
    obtain⟨g,rfl⟩:=HKA.out a rfl
    exact⟨g,rfl,(HOK1.out.lt g rfl).2,HKO.out g rfl⟩
 have hszw:((w.alloc (.cells #[.slice kA x.1.length kc,.slice vA x.2.length vc] 200)).alloc (.cells #[.slice none 0 0,.slice none 0 0] 200)).heap.size=w.heap.size+2:=by simp
 rw[hszw] at hn hgk
 clear f1 hb1 hcells hlo ha1 hcl1 hw1 hxl o1 hA1 hks hko ok1 hKA hd0
 have hb0:((w.alloc (.cells #[.slice kA x.1.length kc,.slice vA x.2.length vc] 200)).alloc (.cells #[.slice none 0 0,.slice none 0 0] 200)).heap[w.heap.size]?=some (.cells #[.slice kA x.1.length kc,.slice vA x.2.length vc] 200 (0,0)):=((Fr.refl C0 _).alloc _).blk (heap_alloc_new w _) (fun h=>h)
 have hu0:((w.alloc (.cells #[.slice kA x.1.length kc,.slice vA x.2.length vc] 200)).alloc (.cells #[.slice none 0 0,.slice none 0 0] 200)).heap[w.heap.size+1]?=some (.cells #[.slice none 0 0,.slice none 0 0] 200 (0,0)):=by
  have:=heap_alloc_new (w.alloc (.cells #[.slice kA x.1.length kc,.slice vA x.2.length vc] 200)) (.cells #[.slice none 0 0,.slice none 0 0] 200)
  rwa [show(w.alloc (.cells #[.slice kA x.1.length kc,.slice vA x.2.length vc] 200)).heap.size=w.heap.size+1 by simp] at this
 have hbx:=F1.out.blk hb0 (fun e=>hq0 (e.symm.trans (HFZ.out _ (Nat.le_refl _) (by omega))))
 have hbu:=F1.out.blk hu0 (fun e=>hq2 (HU.out.symm.trans e))
 have HBU:=zhd hbu
 have HBX:=zhd hbx
 have x0:=z2k hbx 0 rfl
 have x1:=z2k hbx 1 rfl
 have FW1:Hid (Fr (fun b=>c b=q) w w1):=zhd ((F0.out.mono (fun _ _ h=>h.elim)).trans F1.out (fun b hb h=>by rw[←HAG0.out b hb];exact h))
 have HKW1:=zhd (HK.out.fr FW1.out (fun b h e=>hq0 (e.symm.trans h)))
 have HVW1:=zhd (HV.out.fr FW1.out (fun b h e=>hq0 (e.symm.trans h)))
 have hROW:Row (fun _=>True) w1 (.slice A1 t.l.length ca1) t.l.length 2 xs:=Row.ofOwn O1.out (fun _ _=>trivial)
 have HFI:=zhd (fun (w_:World) (hf:Fr C0 w1 w_)=>z84 (((ItemsAt.ofCells hROW (HCE.out.mono (F':=fun _=>True) (fun _ _ _=>trivial))).fr0 hf)) ((HKW1.out.mono (F':=fun _=>True) (fun _ _ _=>trivial)).fr0 hf))
 have HRW:=zhd hROW
 have hs1:=FW1.out.size
 have hs0:=F1.out.size
 rw[hszw] at hs0
 clear hb0 hbx hu0 hbu hROW
 generalize hfk:findL x.1 t.l=fk at *
 obtain⟨i,there⟩:=fk
 clear hfk
 go_wp2_with fail
 refine z1z (Fr C0 w1) [] (by kernel_rfl) ?_
 have hSw0:(Fr C0 w1) _:=(Fr.refl C0 w1).drew
 refine tk 0 hSw0 ?_
 refine tk 2 hSw0 ?_
 refine tk 3 hSw0 ?_ (hy:=by intro w_ hS_;have b0:=hS_.cell0 x0;first|(go_simp;done)|(go_simp;with_reducible rfl))
 refine one_ 1 rfl (fun K hK=>?_)
 go_simp
 refine(z64 n _ _ ((Fr.refl C0 w1).drew.cell0 m1)).mono ?_
 rintro e w5 ⟨rfl,rfl⟩
 simp only[]
 refine hK.out _ _ ?kS1 (fun hSw1=>?kR1)
 case kS1=>exact(Fr.refl C0 w1).drew
 clear hK K
 try simp only[Act.put,zs1,zs2,zs3]
 refine one_ 4 rfl (fun K hK=>?_)
 go_simp
 refine(HFI.out _ (Fr.refl C0 w1).drew).mono ?_
 rintro e w5 ⟨rfl,f5⟩
 simp only[]
 have F5:=zhd ((Fr.refl C0 w1).drew.trans0 f5)
 clear f5
 refine hK.out _ _ ?kS2 (fun hSw2=>?kR2)
 case kS2=>exact F5.out
 clear hK K
 try simp only[Act.put,zs1,zs2,zs3]
 refine tk 5 hSw2 ?_
 refine tk 6 hSw2 ?_
 refine tk 7 hSw2 ?_
 refine tk 8 hSw2 ?_
 refine tk 9 hSw2 ?_
 refine z1y (by kernel_rfl) ?_ _
 have hlp:=HLP.out
 have hob:=fun b e=>O1.out.lt b e
 cases there with
 | true =>
   simp only[if_true] at hlp
   obtain⟨hi,hpl,hgn⟩:=hlp
   have HPL:=zhd hpl
   have HGN:=zhd hgn
   clear hpl hgn
   obtain⟨g,rfl,hgb⟩:∃g,A1=some ⟨g,0,none⟩∧(w.heap.size+2≤g∧g<w1.heap.size∧c1 g=0):=by
    cases A1 with
    | none =>
      rcases O1.out.2 with⟨e,h0⟩|⟨g,cap,cur,e,_⟩
      · omega
      · cases e
    | some a =>
      obtain⟨g,rfl⟩:=HA1'.out a rfl
      have h1:=HLO.out g rfl
      rw[hszw] at h1
      exact⟨g,rfl,h1.1,(hob g rfl).2,h1.2⟩
   have hO5:=z0m O1.out F5.out (fun _ _ h=>h)
   have hi2:i*2<xs.length:=by have:=HXL.out;omega
   have hi3:i*2+1<xs.length:=by have:=HXL.out;omega
   have y0:=hO5.cells (g:=g) rfl (i*2) _ (List.getElem?_eq_getElem hi2)
   have y1:=hO5.cells (g:=g) rfl (i*2+1) _ (List.getElem?_eq_getElem hi3)
   obtain⟨cur,hgb5⟩:=z4y hO5 (b:=g) rfl
   have z0:=z2i (i*2) hgb5
   have z1:=z2i (i*2+1) hgb5
   rw[add0] at y0 y1
   have x0':=F5.out.cell0 x0
   have x1':=F5.out.cell0 x1
   have m1':=F5.out.cell0 m1
   have HO5:=zhd hO5
   clear hO5 hgb5
   go_wp2_with fail
   refine z1z (Fr C0 w5) [5] (by kernel_rfl) ?_
   have hSw0:(Fr C0 w5) _:=(Fr.refl C0 w5).drew
   refine tk 0 hSw0 ?_
   refine tk 2 hSw0 ?_
   refine tk 3 hSw0 ?_ (hy:=by intro w_ hS_;have b0:=hS_.cell0 x0';have b1:=hS_.cell0 x1';first|(go_simp;done)|(go_simp;with_reducible rfl))
   refine one_ 1 rfl (fun K hK=>?_)
   go_simp
   refine(z64 n _ _ ((Fr.refl C0 w5).drew.cell0 m1')).mono ?_
   rintro e w6 ⟨rfl,rfl⟩
   simp only[]
   refine hK.out _ _ ?kS3 (fun hSw1=>?kR3)
   case kS3=>exact(Fr.refl C0 w5).drew
   clear hK K
   try simp only[Act.put,zs1,zs2,zs3]
   refine tk 4 hSw1 ?_
   refine z1v 5 rfl (fun K hK=>?_)
   go_simp
   refine hK.out _ _ ?_;clear hK K
   try simp only[Act.put,zs1,zs2,zs3]
   refine z1y (by kernel_rfl) ?_ _
   have FS:=((Fr.refl (fun b=>b=g) w5).setCell (p:=⟨g,i*2,none⟩) (.inr rfl) (.slice kA x.1.length kc)).setCell (p:=⟨g,i*2+1,none⟩) (.inr rfl) (.slice vA x.2.length vc)
   have hu6:=FS.blk (F5.out.blk HBU.out (fun h=>h)) (by omega)
   have u0:=z2k hu6 0 rfl
   have u1:=z2k hu6 1 rfl
   have zu0:=z2i 0 hu6
   have zu1:=z2i 1 hu6
   have HU6:=zhd hu6
   have HFS:=zhd FS
   clear FS hu6
   go_wp2_with fail
   refine ret4 (p:=8) (g:=w.heap.size+1) rfl rfl (z2j (i:=1) (z2j (i:=0) HU6.out (.slice none 0 0)) (.slice none 0 0)) Tryz.underlying200 rfl (by kernel_rfl) rfl ?_
   have hgu:¬g=w.heap.size+1:=by omega
   have hsw5:=F5.out.size
   have hFU:=((Fr.refl (fun b=>b=w.heap.size+1) ((w5.setCell ⟨g,i*2,none⟩ (.slice kA x.1.length kc)).setCell ⟨g,i*2+1,none⟩ (.slice vA x.2.length vc))).setCell (p:=⟨w.heap.size+1,0,none⟩) (.inr rfl) (.slice none 0 0)).setCell (p:=⟨w.heap.size+1,1,none⟩) (.inr rfl) (.slice none 0 0)
   have hFT:=(HFS.out.mono (C2:=fun b=>b=g∨b=w.heap.size+1) (fun _ _ h=>.inl h)).trans (hFU.mono (C2:=fun b=>b=g∨b=w.heap.size+1) (fun _ _ h=>.inr h)) (fun _ _ h=>h)
   have hFD:=hFT.drew
   have hcu1:c1 (w.heap.size+1)=q2:=by rw[HA1.out _ (by rw[hszw];omega)];exact HU.out
   have hset:=(z8l (u:=.slice vA x.2.length vc) (z8l (u:=.slice kA x.1.length kc) HO5.out hi2) (by simpa using hi3))
   have hro:=z0m hset hFU (fun b e h=>by simp[Value.ownBlock] at e;omega)
   have hag1:Ag w.heap.size c c1:=fun b hb=>by rw[HA1.out b (by rw[hszw];omega)];exact HAG0.out b hb
   have hnl:n<w1.heap.size:=(Array.getElem?_eq_some_iff.1 HB1.out).1
   have hsf:=hFD.size
   have hng:¬(n=g∨n=w.heap.size+1):=fun h=>h.elim (fun h=>hln (by rw[h];rfl)) (fun h=>by omega)
   have hgg:gk≠g:=fun e=>hgk.2.2.2.2 (by rw[e];rfl)
   have hmem:∀b,b∈[n,gk]→b=n∨b=gk:=fun b h=>by simpa using h
   have hold:∀b,c b=0→b<w.heap.size→(c1 b=0∧b∉[n,gk]∧¬(b=g∨b=w.heap.size+1)):=fun b h hl=>⟨(hag1 b hl).trans h,fun hm=>by rcases hmem b hm with h|h<;>omega,by omega⟩
   have hkb:=((HK.out.mono (F':=fun b=>c1 b=0∧b∉[n,gk]∧¬(b=g∨b=w.heap.size+1)) hold).mono (F':=fun b=>(c1 b=0∧b∉[n,gk]∧¬(b=g∨b=w.heap.size+1))∧b<w.heap.size) (fun b h hl=>⟨h,hl⟩)).fr FW1.out (fun b h e=>hq0 (by rw[←e,←hag1 b h.2];exact h.1.1))
   have hvb:=((HV.out.mono (F':=fun b=>c1 b=0∧b∉[n,gk]∧¬(b=g∨b=w.heap.size+1)) hold).mono (F':=fun b=>(c1 b=0∧b∉[n,gk]∧¬(b=g∨b=w.heap.size+1))∧b<w.heap.size) (fun b h hl=>⟨h,hl⟩)).fr FW1.out (fun b h e=>hq0 (by rw[←e,←hag1 b h.2];exact h.1.1))
   have hce:=(HCE.out.mono (F':=fun b=>c1 b=0∧b∉[n,gk]∧¬(b=g∨b=w.heap.size+1)) (fun b h _=>⟨h.1,fun hm=>by rcases hmem b hm with e|e;exact h.2.1 e;exact h.2.2.2 (by rw[e];rfl),fun e=>by rcases e with e|e;exact h.2.2.1 (by rw[e];rfl);exact hq20 (by rw[←hcu1,←e];exact h.1)⟩)).fr0 F5.out
   have hci:=((ItemCells.set (x:=x) ((hkb.fr0 F5.out).mono (fun b h _=>h.1)) ((hvb.fr0 F5.out).mono (fun b h _=>h.1)) i hce).fr hFD (fun b h e=>h.2.2 e)).mono (F':=Dt (ownN c1 [n,gk] rn)) (fun b h _=>by show ownN c1 [n,gk] rn b=0;rw[z8n h.2.1];exact h.1)
   have hbn:=(F5.out.blk HB1.out (fun h=>h))
   have hbnf:=hFD.blk hbn hng
   have hgnm:g∉[n,gk]:=fun hm=>by rcases hmem g hm with h|h;exact hng (.inl h.symm);exact hgg h.symm
   have hunm:w.heap.size+1∉[n,gk]:=fun hm=>by rcases hmem _ hm with h|h<;>omega
   have hit:ItemsAt (Dt (ownN c1 [n,gk] rn)) _ (.slice (some ⟨g,0,none⟩) t.l.length ca1) (t.l.set i x):=ItemsAt.ofCells (xs:=(xs.set (i*2) (.slice kA x.1.length kc)).set (i*2+1) (.slice vA x.2.length vc)) (by rw[List.length_set];exact Row.ofOwn (z0m hro ((Fr.refl C0 _).drew) (fun _ _ h=>h)) (fun b e=>by simp[Value.ownBlock] at e;subst e;show ownN c1 [n,gk] rn g=0;rw[z8n hgnm];exact hgb.2.2)) hci
   have hwk:WorkAt (ownN c1 [n,gk] rn) q _ wp tp (gone++goneOf t):=(WorkAt.ownN (rn:=rn) (ns:=[n,gk]) (HW1.out.fr0 F5.out) hq0 (fun b hb=>by rcases hmem b hb with h|h;rw[h];exact hcn;rw[h];exact hgk.2.2.1)).fr hFD (fun b h e=>by
    rcases h with h|h
    · rw[h,z8n hgnm,hgb.2.2] at e;exact hq0 e.symm
    · rw[h,z8n hunm,hcu1] at e;exact hq2 e)
   have hkrow:=z0m (z0m HOK1.out F5.out (fun _ _ h=>h)) hFD (fun b e h=>by simp[Value.ownBlock] at e;subst e;rcases h with h|h;exact hgg h;omega)
   obtain⟨_,_,hek,hkc1,hkc2⟩:=(Row.ofOwn hkrow (F:=fun _=>True) (fun _ _=>trivial)).form
   injection hek with _ _ hek
   subst hek
   have hk0:kvs≠[]:=by
    intro e
    have:kvs.length=0:=by rw[e];rfl
    omega
   have hagf:Ag w.heap.size c (ownN c1 [n,gk] rn):=z8o hag1 (fun b hb=>by rcases hmem b hb with h|h<;>omega)
   have hkids:=zbf (c':=ownN c1 [n,gk] rn) (q:=q) HKS.out (HCL0.out _ (by rw[hszw];omega)) (fun b hb=>by rw[z8n (fun hm=>by rw[hszw] at hb;rcases hmem b hm with h|h<;>omega)];exact HA1.out b hb) (by rw[hszw];omega) HU.out hq0 hqn hq20 hq2n ((((F1.out.mono (C2:=fun b=>c0 b=q∨b=w.heap.size+1) (fun _ _ h=>.inl h)).trans0 F5.out)).trans hFD (fun b hb h=>by rw[hszw] at hb;rcases h with h|h;omega;exact .inr h))
   have hshp:Shape (d+1) m (.node (.mem n gk 0) (t.l.set i x) t.ks):=⟨by rw[List.length_set];exact hlm,by rw[List.length_set];exact hl4,fun y hy=>(List.mem_or_eq_of_mem_set hy).elim (HKV.out y) (fun e=>e▸HX.out),by rw[if_neg HD0.out,List.length_set];exact⟨hkn1,HKSH.out⟩⟩
   have hmo:(false:Bool)=decide (getL x.1 (flat (d+1) t)=none):=by rw[HFL.out];simp[HGN.out]
   refine PutRes.mk ((FW1.out.trans0 F5.out).trans hFD (fun b hb h=>by omega)) ⟨ownN c1 [n,gk] rn,gone++goneOf t,hagf,z8p (HCL1.out.mono (by omega)) (fun b hb=>by rcases hmem b hb with h|h<;>omega),hwk,by rw[List.length_append];have:=zay t;omega,?_⟩
   rw[←hmo]
   refine .one rfl (z8s hbnf hit (z8m (by simp)) (z8m (by simp)) hk0 (by omega) hkc2 (fun j u hj=>by have:=hkrow.cells (g:=gk) rfl j u hj;rw[add0] at this;rwa [Nat.zero_add]) hkids (z8q hkrow rfl)) hshp ?_ (zbb HRD.out.1 HRD.out.2 (by omega) (by omega) (fun e=>hgk.2.2.2.1 e.symm))
   rw[HFL.out,HPL.out]
   show(if d=0 then _ else _)=_
   rw[if_neg HD0.out]
 |false=>exact absurd HWH.out (by simp)
end
end Go.Proofs.YtidalepbkljkpaaGreat
