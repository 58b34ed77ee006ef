import Derived.Test.YtidalepbkljkpaaGreatLocalSpaces16
import Derived.Test.YtidalepbkljkpaaGreatLocalSpaces20
set_option linter.all false
namespace Go.Proofs.YtidalepbkljkpaaGreat
open Go.RowKit Go.H
set_option maxHeartbeats 2000000
set_option maxRecDepth 100000
section
theorem _root_.Go.H.Row.cap {F:Nat→Prop} {w:World} {A:Option Addr} {n c c' size:Nat} {xs:List Value} (h:Row F w (.slice A n c) n size xs) (h1:n≤c') (h2:c'≤maxLen):Row F w (.slice A n c') n size xs:=by
 obtain⟨A',c0,e,_,_,a,b⟩:=h
 injection e with e1 _ _
 subst e1
 exact⟨_,c',rfl,h1,h2,a,b⟩
theorem add0 (g j:Nat):(⟨g,0,none⟩:Addr).add j=⟨g,j,none⟩:=by unfold Addr.add;split<;>simp_all
theorem zat (id n:Nat) (l:List KV):cnt 1 (.pg id) (.node (.mem n 0 0) l [])=0:=by simp[cnt,Nm.cnt,sumN]
theorem zau (b o n:Nat) (l:List KV):cnt 1 (.cl b o) (.node (.mem n 0 0) l [])=if b=n∧o=0 then 1 else 0:=by
 simp only[cnt,Nm.cnt,List.map_nil,sumN,List.length_nil,Nat.add_zero,Th.cl.injEq]
 rw[if_neg (show ¬(b=0∧0≤o∧o<0) by omega)]
 simp
theorem zav (t:T) (id:Nat):(goneOf t).count id=(match t.nm with|.page i=>if i=id then 1 else 0|.mem ..=>0):=by
 obtain⟨nm,l,ks⟩:=t
 cases nm<;>simp[goneOf,T.nm,List.count_cons]
theorem zaw {n0 n m:Nat} {t:T} {l:List KV} {gone:List Nat} (hs:Shape 1 m t) (hn:n0≤n):Acc n0 1 t [.node (.mem n 0 0) l []] gone (gone++goneOf t):=by
 have hks:t.ks=[]:=by obtain⟨nm,l,ks⟩:=t;exact hs.2.2.2
 refine⟨fun id=>?_,fun b o=>?_,?_⟩
 · rw[List.count_append,zav]
   obtain⟨nm,l',ks⟩:=t
   obtain rfl:ks=[]:=hks
   cases nm with
   |page i=>simp[cnt,Nm.cnt,sumN,T.nm];by_cases h:id=i<;>simp[h]<;>omega
   |mem a g o=>simp[cnt,Nm.cnt,sumN,T.nm]
 · simp only[List.map_cons,List.map_nil,sumN,Nat.add_zero,zau]
   split<;>split<;>omega
 · simp[dirtyN,sumN]
theorem zax {n0 n n2 m:Nat} {t:T} {l l2:List KV} {gone:List Nat} (hs:Shape 1 m t) (hn:n0≤n) (hn2:n0≤n2) (hne:n≠n2):Acc n0 1 t [.node (.mem n 0 0) l [],.node (.mem n2 0 0) l2 []] gone (gone++goneOf t):=by
 have hks:t.ks=[]:=by obtain⟨nm,l,ks⟩:=t;exact hs.2.2.2
 refine⟨fun id=>?_,fun b o=>?_,?_⟩
 · have:=(zaw (gone:=gone) (l:=l) hs hn).pg id
   simp only[List.map_cons,List.map_nil,sumN,zat] at this⊢
   omega
 · simp only[List.map_cons,List.map_nil,sumN,Nat.add_zero,zau]
   split<;>split<;>split<;>omega
 · simp[dirtyN,sumN]
theorem zay (t:T):(goneOf t).length≤1:=by
 obtain⟨nm,l,ks⟩:=t
 cases nm<;>simp[goneOf,T.nm]
theorem zaz {r rn q st tp wp:Nat} {S:SSt} {D:DSt} {x:KV} {kv vv:Value} (hq0:q≠0) (hqr:q≠r) (hqn:q≠rn) (hr0:rn≠0) {m:Nat} {c:Nat→Nat} {w:World} {t:T} {v:Value} {gone:List Nat}
 (hh:Hd c r w tp st S D) (hc:Cl w c) (hw:WorkAt c q w wp tp gone) (hr:Rep c rn w (pgs D) D.blocks False 1 t v) (hs:Shape 1 m t) (hm:1≤m) (hso:Sorted (flat 1 t)) (hk:BytesAt (Dt c) w kv x.1) (hv:BytesAt (Dt c) w vv x.2) (hx:KVok x) (hg:gone.length≤1000000) :
 Calls Tryz.prog 148 #[.pointer (some ⟨wp,0,none⟩),v,.agg #[kv,vv]] w (PutRes c rn q w (pgs D) D.blocks 1 m t x wp tp gone):=by
 obtain⟨q2,hq2,hq20,hq2r,hq2n⟩:∃q2,q2≠q∧q2≠0∧q2≠r∧q2≠rn:=⟨q+r+rn+1,by omega,by omega,by omega,by omega⟩
 have HC00:Hid (∃c0,c0=ownN c [w.heap.size+1] q2):=zhd ⟨_,rfl⟩
 obtain⟨c0,hc0⟩:=HC00.out
 have hagc0:Ag w.heap.size c c0:=by rw[hc0];exact z8o (Ag.refl _ _) (fun b hb=>by simp at hb;omega)
 have hu:c0 (w.heap.size+1)=q2:=by rw[hc0];exact z8m (by simp)
 have hcl0:∀w_:World,w.heap.size+2≤w_.heap.size→Cl w_ c0:=fun w_ hs_=>by rw[hc0];exact z8p (hc.mono (by omega)) (fun b hb=>by simp at hb;omega)
 have HCP:=zhd (fun (w_:World) (hf:Fr C0 w w_) (hs_:w.heap.size+2≤w_.heap.size)=>z8i hq0 hqr hqn ((hh.ag hagc0).fr0 hf) (hcl0 w_ hs_) ((hw.ag hagc0).fr0 hf) ((Rep.ag hagc0 hr).fr0 hf) hs hm hg)
 have hfz:∀b,w.heap.size≤b→b≠w.heap.size+1→c0 b=0:=fun b hb hne=>by rw[hc0,z8n (by simpa using hne)];exact hc b hb
 have HFZ:=zhd hfz
 have HAG0:=zhd hagc0
 have HU:=zhd hu
 obtain⟨tx,y,rfl⟩:=hr.iface
 obtain⟨kA,kc,rfl,-⟩:=hk.form
 obtain⟨vA,vc,rfl,-⟩:=hv.form
 have HK:=zhd hk
 have HV:=zhd hv
 have HC:=zhd hc
 have hl4:t.l.length≤4:=by obtain⟨nm,l,ks⟩:=t;exact hs.2.1
 have hlm:m≤t.l.length:=by obtain⟨nm,l,ks⟩:=t;exact hs.1
 have HKV:Hid (∀y∈t.l,KVok y):=zhd (by obtain⟨nm,l,ks⟩:=t;exact hs.2.2.1)
 have HFL:Hid (flat 1 t=t.l):=zhd (by obtain⟨nm,l,ks⟩:=t;rfl)
 have HX:=zhd hx
 rw[HFL.out] at hso
 have HLP:=zhd (zam (x:=x) hso)
 have HSHP:=zhd hs
 clear hh hc hw hr hs hso hk hv hx hc0 hagc0 hu hcl0 hfz HC00
 go_enter Tryz.func148,Tryz.ntmps148
 go_wp2_with fail
 have F0:=zhd (((Fr.refl C0 w).alloc (.cells #[.slice kA x.1.length kc,.slice vA x.2.length vc] 200)).alloc (.cells #[.slice none 0 0,.slice none 0 0] 200))
 have HCP0:=zhd (HCP.out _ F0.out (by simp))
 refine HCP0.out.mono ?_
 clear HCP HCP0
 rintro e w1 ⟨f1,v1,n,lv,kvv,xs,kvs,c1,rfl,⟨o1,hp⟩,hks,hxl,hcells,hn,hcn,hlo,-,hln,ha1,hcl1,hw1⟩
 rcases hp with⟨_,rfl,hb1⟩|⟨hd,_⟩
 case inr=>exact absurd rfl hd
 have F1:=zhd f1
 have HB1:=zhd hb1
 have HCE:=zhd hcells
 have HLO:=zhd hlo
 have HA1:=zhd ha1
 have HCL1:=zhd hcl1
 have HW1:=zhd hw1
 have HXL:=zhd hxl
 rw[show xs.length / 2=t.l.length by omega] at o1
 obtain⟨A1,ca1,rfl,hA1⟩:=z0o o1
 have O1:=zhd o1
 have HA1':=zhd hA1
 have m1:=z2k hb1 1 rfl
 have hszw:((w.alloc (.cells #[.slice kA x.1.length kc,.slice vA x.2.length vc] 200)).alloc (.cells #[.slice none 0 0,.slice none 0 0] 200)).heap.size=w.heap.size+2:=by simp
 rw[hszw] at hn
 clear f1 hb1 hcells hlo ha1 hcl1 hw1 hxl o1 hA1 hks
 have hb0:((w.alloc (.cells #[.slice kA x.1.length kc,.slice vA x.2.length vc] 200)).alloc (.cells #[.slice none 0 0,.slice none 0 0] 200)).heap[w.heap.size]?=some (.cells #[.slice kA x.1.length kc,.slice vA x.2.length vc] 200 (0,0)):=((Fr.refl C0 _).alloc _).blk (heap_alloc_new w _) (fun h=>h)
 have hu0:((w.alloc (.cells #[.slice kA x.1.length kc,.slice vA x.2.length vc] 200)).alloc (.cells #[.slice none 0 0,.slice none 0 0] 200)).heap[w.heap.size+1]?=some (.cells #[.slice none 0 0,.slice none 0 0] 200 (0,0)):=by
  have:=heap_alloc_new (w.alloc (.cells #[.slice kA x.1.length kc,.slice vA x.2.length vc] 200)) (.cells #[.slice none 0 0,.slice none 0 0] 200)
  rwa [show(w.alloc (.cells #[.slice kA x.1.length kc,.slice vA x.2.length vc] 200)).heap.size=w.heap.size+1 by simp] at this
 have hbx:=F1.out.blk hb0 (fun e=>hq0 (e.symm.trans (HFZ.out _ (Nat.le_refl _) (by omega))))
 have hbu:=F1.out.blk hu0 (fun e=>hq2 (HU.out.symm.trans e))
 have HBU:=zhd hbu
 have HBX:=zhd hbx
 have x0:=z2k hbx 0 rfl
 have x1:=z2k hbx 1 rfl
 have FW1:Hid (Fr (fun b=>c b=q) w w1):=zhd ((F0.out.mono (fun _ _ h=>h.elim)).trans F1.out (fun b hb h=>by rw[←HAG0.out b hb];exact h))
 have HKW1:=zhd (HK.out.fr FW1.out (fun b h e=>hq0 (e.symm.trans h)))
 have HVW1:=zhd (HV.out.fr FW1.out (fun b h e=>hq0 (e.symm.trans h)))
 have hROW:Row (fun _=>True) w1 (.slice A1 t.l.length ca1) t.l.length 2 xs:=Row.ofOwn O1.out (fun _ _=>trivial)
 have HFI:=zhd (fun (w_:World) (hf:Fr C0 w1 w_)=>z84 (((ItemsAt.ofCells hROW (HCE.out.mono (F':=fun _=>True) (fun _ _ _=>trivial))).fr0 hf)) ((HKW1.out.mono (F':=fun _=>True) (fun _ _ _=>trivial)).fr0 hf))
 have HRW:=zhd hROW
 have hs1:=FW1.out.size
 have hs0:=F1.out.size
 rw[hszw] at hs0
 clear hb0 hbx hu0 hbu hROW
 generalize hfk:findL x.1 t.l=fk at *
 obtain⟨i,there⟩:=fk
 clear hfk
 go_wp2_with fail
 refine z1z (Fr C0 w1) [] (by kernel_rfl) ?_
 have hSw0:(Fr C0 w1) _:=(Fr.refl C0 w1).drew
 refine tk 0 hSw0 ?_
 refine tk 2 hSw0 ?_
 refine tk 3 hSw0 ?_ (hy:=by intro w_ hS_;have b0:=hS_.cell0 x0;first|(go_simp;done)|(go_simp;with_reducible rfl))
 refine one_ 1 rfl (fun K hK=>?_)
 go_simp
 refine(z63 n _ _ ((Fr.refl C0 w1).drew.cell0 m1)).mono ?_
 rintro e w5 ⟨rfl,rfl⟩
 simp only[]
 refine hK.out _ _ ?kS1 (fun hSw1=>?kR1)
 case kS1=>exact(Fr.refl C0 w1).drew
 clear hK K
 try simp only[Act.put,zs1,zs2,zs3]
 refine one_ 4 rfl (fun K hK=>?_)
 go_simp
 refine(HFI.out _ (Fr.refl C0 w1).drew).mono ?_
 rintro e w5 ⟨rfl,f5⟩
 simp only[]
 have F5:=zhd ((Fr.refl C0 w1).drew.trans0 f5)
 clear f5
 refine hK.out _ _ ?kS2 (fun hSw2=>?kR2)
 case kS2=>exact F5.out
 clear hK K
 try simp only[Act.put,zs1,zs2,zs3]
 refine tk 5 hSw2 ?_
 refine tk 6 hSw2 ?_
 refine tk 7 hSw2 ?_
 refine tk 8 hSw2 ?_
 refine tk 9 hSw2 ?_
 refine z1y (by kernel_rfl) ?_ _
 have hlp:=HLP.out
 have hob:=fun b e=>O1.out.lt b e
 cases there with
 | true =>
   simp only[if_true] at hlp
   obtain⟨hi,hpl,hgn⟩:=hlp
   have HPL:=zhd hpl
   have HGN:=zhd hgn
   clear hpl hgn
   obtain⟨g,rfl,hgb⟩:∃g,A1=some ⟨g,0,none⟩∧(w.heap.size+2≤g∧g<w1.heap.size∧c1 g=0):=by
    cases A1 with
    | none =>
      rcases O1.out.2 with⟨e,h0⟩|⟨g,cap,cur,e,_⟩
      · omega
      · cases e
    | some a =>
      obtain⟨g,rfl⟩:=HA1'.out a rfl
      have h1:=HLO.out g rfl
      rw[hszw] at h1
      exact⟨g,rfl,h1.1,(hob g rfl).2,h1.2⟩
   have hO5:=z0m O1.out F5.out (fun _ _ h=>h)
   have hi2:i*2<xs.length:=by have:=HXL.out;omega
   have hi3:i*2+1<xs.length:=by have:=HXL.out;omega
   have y0:=hO5.cells (g:=g) rfl (i*2) _ (List.getElem?_eq_getElem hi2)
   have y1:=hO5.cells (g:=g) rfl (i*2+1) _ (List.getElem?_eq_getElem hi3)
   obtain⟨cur,hgb5⟩:=z4y hO5 (b:=g) rfl
   have z0:=z2i (i*2) hgb5
   have z1:=z2i (i*2+1) hgb5
   rw[add0] at y0 y1
   have x0':=F5.out.cell0 x0
   have x1':=F5.out.cell0 x1
   have m1':=F5.out.cell0 m1
   have HO5:=zhd hO5
   clear hO5 hgb5
   go_wp2_with fail
   refine z1z (Fr C0 w5) [5] (by kernel_rfl) ?_
   have hSw0:(Fr C0 w5) _:=(Fr.refl C0 w5).drew
   refine tk 0 hSw0 ?_
   refine tk 2 hSw0 ?_
   refine tk 3 hSw0 ?_ (hy:=by intro w_ hS_;have b0:=hS_.cell0 x0';have b1:=hS_.cell0 x1';first|(go_simp;done)|(go_simp;with_reducible rfl))
   refine one_ 1 rfl (fun K hK=>?_)
   go_simp
   refine(z63 n _ _ ((Fr.refl C0 w5).drew.cell0 m1')).mono ?_
   rintro e w6 ⟨rfl,rfl⟩
   simp only[]
   refine hK.out _ _ ?kS3 (fun hSw1=>?kR3)
   case kS3=>exact(Fr.refl C0 w5).drew
   clear hK K
   try simp only[Act.put,zs1,zs2,zs3]
   refine tk 4 hSw1 ?_
   refine z1v 5 rfl (fun K hK=>?_)
   go_simp
   refine hK.out _ _ ?_;clear hK K
   try simp only[Act.put,zs1,zs2,zs3]
   refine z1y (by kernel_rfl) ?_ _
   have FS:=((Fr.refl (fun b=>b=g) w5).setCell (p:=⟨g,i*2,none⟩) (.inr rfl) (.slice kA x.1.length kc)).setCell (p:=⟨g,i*2+1,none⟩) (.inr rfl) (.slice vA x.2.length vc)
   have hu6:=FS.blk (F5.out.blk HBU.out (fun h=>h)) (by omega)
   have u0:=z2k hu6 0 rfl
   have u1:=z2k hu6 1 rfl
   have zu0:=z2i 0 hu6
   have zu1:=z2i 1 hu6
   have HU6:=zhd hu6
   have HFS:=zhd FS
   clear FS hu6
   go_wp2_with fail
   refine ret4 (p:=8) (g:=w.heap.size+1) rfl rfl (z2j (i:=1) (z2j (i:=0) HU6.out (.slice none 0 0)) (.slice none 0 0)) Tryz.underlying200 rfl (by kernel_rfl) rfl ?_
   have hgu:¬g=w.heap.size+1:=by omega
   have hsw5:=F5.out.size
   have hFU:=((Fr.refl (fun b=>b=w.heap.size+1) ((w5.setCell ⟨g,i*2,none⟩ (.slice kA x.1.length kc)).setCell ⟨g,i*2+1,none⟩ (.slice vA x.2.length vc))).setCell (p:=⟨w.heap.size+1,0,none⟩) (.inr rfl) (.slice none 0 0)).setCell (p:=⟨w.heap.size+1,1,none⟩) (.inr rfl) (.slice none 0 0)
   have hFT:=(HFS.out.mono (C2:=fun b=>b=g∨b=w.heap.size+1) (fun _ _ h=>.inl h)).trans (hFU.mono (C2:=fun b=>b=g∨b=w.heap.size+1) (fun _ _ h=>.inr h)) (fun _ _ h=>h)
   have hFD:=hFT.drew
   have hcu1:c1 (w.heap.size+1)=q2:=by rw[HA1.out _ (by rw[hszw];omega)];exact HU.out
   have hg1:∀b,c1 b=q→¬(b=g∨b=w.heap.size+1):=fun b e h=>h.elim (fun h=>hq0 (by rw[←e,h];exact hgb.2.2)) (fun h=>hq2 (by rw[←hcu1,←h];exact e))
   have hdt:∀b,(c1 b=0∧b≠n∧¬(Value.slice (some ⟨g,0,none⟩) t.l.length ca1).ownBlock=some b∧¬kvv.ownBlock=some b)→¬(b=g∨b=w.heap.size+1):=fun b hb h=>h.elim (fun h=>hb.2.2.1 (by rw[h];rfl)) (fun h=>hq20 (by rw[←hcu1,←h];exact hb.1))
   have hset:=(z8l (u:=.slice vA x.2.length vc) (z8l (u:=.slice kA x.1.length kc) HO5.out hi2) (by simpa using hi3))
   have hro:=z0m hset hFU (fun b e h=>by simp[Value.ownBlock] at e;omega)
   have hag1:Ag w.heap.size c c1:=fun b hb=>by rw[HA1.out b (by rw[hszw];omega)];exact HAG0.out b hb
   have hnl:n<w1.heap.size:=(Array.getElem?_eq_some_iff.1 HB1.out).1
   have hsf:=hFD.size
   have hng:¬(n=g∨n=w.heap.size+1):=fun h=>h.elim (fun h=>hln (by rw[h];rfl)) (fun h=>by omega)
   have hold:∀b,c b=0→b<w.heap.size→(c1 b=0∧b≠n∧¬(b=g∨b=w.heap.size+1)):=fun b h hl=>⟨(hag1 b hl).trans h,by omega,by omega⟩
   have hkb:=((HK.out.mono (F':=fun b=>c1 b=0∧b≠n∧¬(b=g∨b=w.heap.size+1)) hold).mono (F':=fun b=>(c1 b=0∧b≠n∧¬(b=g∨b=w.heap.size+1))∧b<w.heap.size) (fun b h hl=>⟨h,hl⟩)).fr FW1.out (fun b h e=>hq0 (by rw[←e,←hag1 b h.2];exact h.1.1))
   have hvb:=((HV.out.mono (F':=fun b=>c1 b=0∧b≠n∧¬(b=g∨b=w.heap.size+1)) hold).mono (F':=fun b=>(c1 b=0∧b≠n∧¬(b=g∨b=w.heap.size+1))∧b<w.heap.size) (fun b h hl=>⟨h,hl⟩)).fr FW1.out (fun b h e=>hq0 (by rw[←e,←hag1 b h.2];exact h.1.1))
   have hce:=(HCE.out.mono (F':=fun b=>c1 b=0∧b≠n∧¬(b=g∨b=w.heap.size+1)) (fun b h _=>⟨h.1,h.2.1,hdt b h⟩)).fr0 F5.out
   have hci:=((ItemCells.set (x:=x) ((hkb.fr0 F5.out).mono (fun b h _=>h.1)) ((hvb.fr0 F5.out).mono (fun b h _=>h.1)) i hce).fr hFD (fun b h e=>h.2.2 e)).mono (F':=Dt (ownN c1 [n] rn)) (fun b h _=>by show ownN c1 [n] rn b=0;rw[z8n (by simpa using h.2.1)];exact h.1)
   have hbn:=(F5.out.blk HB1.out (fun h=>h))
   have hbnf:=hFD.blk hbn hng
   have hit:ItemsAt (Dt (ownN c1 [n] rn)) _ (.slice (some ⟨g,0,none⟩) t.l.length ca1) (t.l.set i x):=ItemsAt.ofCells (xs:=(xs.set (i*2) (.slice kA x.1.length kc)).set (i*2+1) (.slice vA x.2.length vc)) (by rw[List.length_set];exact Row.ofOwn (z0m hro ((Fr.refl C0 _).drew) (fun _ _ h=>h)) (fun b e=>by simp[Value.ownBlock] at e;subst e;show ownN c1 [n] rn g=0;rw[z8n (by simp;exact fun e=>hng (.inl e.symm))];exact hgb.2.2)) hci
   have hwk:WorkAt (ownN c1 [n] rn) q _ wp tp (gone++goneOf t):=(WorkAt.ownN (rn:=rn) (ns:=[n]) (HW1.out.fr0 F5.out) hq0 (fun b hb=>by rw[List.mem_singleton.1 hb];exact hcn)).fr hFD (fun b h e=>by
    rcases h with h|h
    · rw[h,z8n (by simp;exact fun e=>hng (.inl e.symm)),hgb.2.2] at e;exact hq0 e.symm
    · rw[h,z8n (by simp;exact fun e=>hng (.inr e.symm)),hcu1] at e;exact hq2 e)
   have hshp:Shape 1 m (.node (.mem n 0 0) (t.l.set i x) []):=⟨by rw[List.length_set];exact hlm,by rw[List.length_set];exact hl4,fun y hy=>(List.mem_or_eq_of_mem_set hy).elim (HKV.out y) (fun e=>e▸HX.out),rfl⟩
   have hmo:(false:Bool)=decide (getL x.1 (flat 1 t)=none):=by rw[HFL.out];simp[HGN.out]
   rw[show ∀e,PutRes c rn q w (pgs D) D.blocks 1 m t x wp tp gone e=PutRes c rn q w (pgs D) D.blocks 1 m t x wp tp gone e from fun _=>rfl]
   refine PutRes.mk ((FW1.out.trans0 F5.out).trans hFD (fun b hb h=>by omega)) ⟨ownN c1 [n] rn,gone++goneOf t,z8o hag1 (fun b hb=>by rw[List.mem_singleton.1 hb];omega),z8p (HCL1.out.mono (by omega)) (fun b hb=>by rw[List.mem_singleton.1 hb];omega),hwk,by rw[List.length_append];have:=zay t;omega,?_⟩
   rw[←hmo]
   exact .one rfl (z8r hbnf hit (z8m (by simp))) hshp (by rw[HFL.out,HPL.out];rfl) (zaw HSHP.out (by omega))
 | false =>
   simp only[Bool.false_eq_true,if_false] at hlp
   obtain⟨hi,hpl,hgn⟩:=hlp
   have HPL:=zhd hpl
   have HGN:=zhd hgn
   clear hpl hgn
   have x0':=F5.out.cell0 x0
   have x1':=F5.out.cell0 x1
   have m1':=F5.out.cell0 m1
   have hbn:=F5.out.blk HB1.out (fun h=>h)
   have HBN:=zhd hbn
   have zn:=z2i 1 hbn
   have HIN:=zhd (fun (w_:World) (hf:Fr C0 w5 w_)=>z8j (kA:=kA) (vA:=vA) (kn:=x.1.length) (kc:=kc) (vn:=x.2.length) (vc:=vc) ((HRW.out.fr0 F5.out).fr0 hf) HCE.out.one hi (by omega))
   have HONE:=zhd HCE.out.one
   clear hbn
   go_wp2_with fail
   refine z1z (Fr C0 w5) [10] (by kernel_rfl) ?_
   have hSw0:(Fr C0 w5) _:=(Fr.refl C0 w5).drew
   refine tk 0 hSw0 ?_
   refine tk 1 hSw0 ?_
   refine tk 2 hSw0 ?_
   refine tk 3 hSw0 ?_
   refine tk 4 hSw0 ?_ (hy:=by intro w_ hS_;have b0:=hS_.cell0 x0';have b1:=hS_.cell0 x1';have b2:=hS_.cell0 m1';first|(go_simp;done)|(go_simp;with_reducible rfl))
   refine tk 5 hSw0 ?_
   refine tk 6 hSw0 ?_ (hy:=by intro w_ hS_;have b0:=hS_.cell0 x0';have b1:=hS_.cell0 x1';have b2:=hS_.cell0 m1';first|(go_simp;done)|(go_simp;with_reducible rfl))
   refine one_ 7 rfl (fun K hK=>?_)
   go_simp
   refine(HIN.out _ (Fr.refl C0 w5).drew).mono ?_
   rintro e w6 ⟨v6,rfl,f6,o6⟩
   simp only[]
   obtain⟨A6,c6,rfl,hA6⟩:=z0o o6
   have F6:=zhd ((Fr.refl C0 w5).drew.trans0 f6)
   have O6:=zhd o6
   have HA6:=zhd hA6
   have n1:=F6.out.cell0 m1'
   have hbn6:=F6.out.blk HBN.out (fun h=>h)
   have zn6:=z2i 1 hbn6
   have HBN6:=zhd hbn6
   clear f6 o6 hbn6 hA6
   refine hK.out _ _ ?kS4 (fun hSw1=>?kR4)
   case kS4=>exact F6.out
   clear hK K
   try simp only[Act.put,zs1,zs2,zs3]
   refine tk 8 hSw1 ?_
   refine tk 9 hSw1 ?_
   refine z1v 10 rfl (fun K hK=>?_)
   go_simp
   refine hK.out _ _ ?_;clear hK K
   try simp only[Act.put,zs1,zs2,zs3]
   refine z1y (by kernel_rfl) ?_ _
   have hbn7:=z2j (i:=1) HBN6.out (.slice A6 (t.l.length+1) c6)
   have p1:=z2k hbn7 1 rfl
   have HBN7:=zhd hbn7
   have FN:=zhd ((Fr.refl (fun b=>b=n) w6).setCell (p:=⟨n,1,none⟩) (.inr rfl) (.slice A6 (t.l.length+1) c6))
   have hu7:=FN.out.blk (F6.out.blk (F5.out.blk HBU.out (fun h=>h)) (fun h=>h)) (by omega)
   have u0:=z2k hu7 0 rfl
   have u1:=z2k hu7 1 rfl
   have zu0:=z2i 0 hu7
   have zu1:=z2i 1 hu7
   have HU7:=zhd hu7
   clear hbn7 hu7
   have hag1:Ag w.heap.size c c1:=fun b hb=>by rw[HA1.out b (by rw[hszw];omega)];exact HAG0.out b hb
   have hnl:n<w1.heap.size:=(Array.getElem?_eq_some_iff.1 HB1.out).1
   have hsw5:=F5.out.size
   have hsw6:=F6.out.size
   have hcu1:c1 (w.heap.size+1)=q2:=by rw[HA1.out _ (by rw[hszw];omega)];exact HU.out
   have hold:∀b,c b=0→b<w.heap.size→((c1 b=0∧b≠n∧b≠w.heap.size+1)∧b<w.heap.size):=fun b h hl=>⟨⟨(hag1 b hl).trans h,by omega,by omega⟩,hl⟩
   have hkb:=(((HK.out.mono hold).fr FW1.out (fun b h e=>hq0 (by rw[←e,←hag1 b h.2];exact h.1.1))).fr0 F5.out).fr0 F6.out
   have hvb:=(((HV.out.mono hold).fr FW1.out (fun b h e=>hq0 (by rw[←e,←hag1 b h.2];exact h.1.1))).fr0 F5.out).fr0 F6.out
   have hce:=((HCE.out.mono (F':=fun b=>(c1 b=0∧b≠n∧b≠w.heap.size+1)∧b<w1.heap.size) (fun b h hl=>⟨⟨h.1,h.2.1,fun e=>hq20 (by rw[←hcu1,←e];exact h.1)⟩,hl⟩)).fr0 F5.out).fr0 F6.out
   have hci:=((hce.take i).append (ItemCells.nil (F:=fun b=>(c1 b=0∧b≠n∧b≠w.heap.size+1)∧b<w1.heap.size))).mono (F':=fun b=>(c1 b=0∧b≠n∧b≠w.heap.size+1)∧b<w1.heap.size) (fun b h _=>h)
   have hcj:ItemCells (fun b=>(c1 b=0∧b≠n∧b≠w.heap.size+1)∧b<w1.heap.size) w6 (xs.take (i*2)++[.slice kA x.1.length kc,.slice vA x.2.length vc]++xs.drop (i*2)) (t.l.take i++x::t.l.drop i):=by
    have h3:=(ItemCells.append (hce.drop i) (ItemCells.cons (x:=x) (hkb.mono (fun b h _=>⟨h.1,by omega⟩)) (hvb.mono (fun b h _=>⟨h.1,by omega⟩)) .nil))
    have h4:=ItemCells.append h3 (hce.take i)
    simpa [List.append_assoc] using h4
   have HCJ:=zhd hcj
   have hw6:=zhd ((HW1.out.fr0 F5.out).fr0 F6.out)
   have hob6:=fun b e=>O6.out.lt b e
   have hd5:w5.drew.heap.size=w5.heap.size:=rfl
   rw[hd5] at hob6
   have HLEN:Hid ((t.l.take i++x::t.l.drop i).length=t.l.length+1):=zhd (by simp;omega)
   have HKV':Hid (∀y∈t.l.take i++x::t.l.drop i,KVok y):=zhd (fun y hy=>by
    rcases List.mem_append.1 hy with h|h
    · exact HKV.out y (List.mem_of_mem_take h)
    · rcases List.mem_cons.1 h with rfl|h
      · exact HX.out
      · exact HKV.out y (List.mem_of_mem_drop h))
   clear hkb hvb hce hci hcj hold
   by_cases h5:t.l.length+1≤4
   · have h5':((t.l.length:Int)+1)≤4:=by omega
     go_wp2_with fail
     refine ret4 (p:=8) (g:=w.heap.size+1) rfl rfl (z2j (i:=1) (z2j (i:=0) HU7.out (.slice none 0 0)) (.slice none 0 0)) Tryz.underlying200 rfl (by kernel_rfl) rfl ?_
     have hFU:=((Fr.refl (fun b=>b=w.heap.size+1) (w6.setCell ⟨n,1,none⟩ (.slice A6 (t.l.length+1) c6))).setCell (p:=⟨w.heap.size+1,0,none⟩) (.inr rfl) (.slice none 0 0)).setCell (p:=⟨w.heap.size+1,1,none⟩) (.inr rfl) (.slice none 0 0)
     have hFT:=(FN.out.mono (C2:=fun b=>b=n∨b=w.heap.size+1) (fun _ _ h=>.inl h)).trans (hFU.mono (C2:=fun b=>b=n∨b=w.heap.size+1) (fun _ _ h=>.inr h)) (fun _ _ h=>h)
     have hsf:=hFT.size
     have hcf:=(HCJ.out.fr hFT (fun b h e=>e.elim h.1.2.1 h.1.2.2)).mono (F':=Dt (ownN c1 [n] rn)) (fun b h _=>by show ownN c1 [n] rn b=0;rw[z8n (by simpa using h.1.2.1)];exact h.1.1)
     have hro:=z0m O6.out hFT (fun b e h=>by have:=hob6 b e;omega)
     have hit:ItemsAt (Dt (ownN c1 [n] rn)) _ (.slice A6 (t.l.length+1) c6) (t.l.take i++x::t.l.drop i):=ItemsAt.ofCells (by rw[HLEN.out];exact Row.ofOwn hro (fun b e=>by have:=hob6 b e;show ownN c1 [n] rn b=0;rw[z8n (by simp;omega)];exact HCL1.out b (by omega))) hcf
     have hbnf:=hFU.blk HBN7.out (by omega)
     have hwk:WorkAt (ownN c1 [n] rn) q _ wp tp (gone++goneOf t):=(WorkAt.ownN (rn:=rn) (ns:=[n]) hw6.out hq0 (fun b hb=>by rw[List.mem_singleton.1 hb];exact hcn)).fr hFT (fun b h e=>by
      rcases h with h|h
      · rw[h,z8m (by simp)] at e;exact hqn e.symm
      · rw[h,z8n (by simp;omega),hcu1] at e;exact hq2 e)
     have hshp:Shape 1 m (.node (.mem n 0 0) (t.l.take i++x::t.l.drop i) []):=⟨by rw[HLEN.out];omega,by rw[HLEN.out];exact h5,HKV'.out,rfl⟩
     have hmo:(true:Bool)=decide (getL x.1 (flat 1 t)=none):=by rw[HFL.out];simp[HGN.out]
     refine PutRes.mk (((FW1.out.trans0 F5.out).trans0 F6.out).trans hFT (fun b hb h=>by omega)) ⟨ownN c1 [n] rn,gone++goneOf t,z8o hag1 (fun b hb=>by rw[List.mem_singleton.1 hb];omega),z8p (HCL1.out.mono (by omega)) (fun b hb=>by rw[List.mem_singleton.1 hb];omega),hwk,by rw[List.length_append];have:=zay t;omega,?_⟩
     rw[←hmo]
     exact .one rfl (z8r hbnf hit (z8m (by simp))) hshp (by rw[HFL.out,HPL.out];rfl) (zaw HSHP.out (by omega))
   · have h5':¬((t.l.length:Int)+1)≤4:=by omega
     have h4:t.l.length=4:=by omega
     obtain⟨g6,rfl,hg6⟩:∃g,A6=some ⟨g,0,none⟩∧(w5.heap.size≤g∧g<w6.heap.size):=by
      cases A6 with
      | none =>
        rcases O6.out.2 with⟨e,h0⟩|⟨g,cap,cur,e,_⟩
        · omega
        · cases e
      | some a =>
        obtain⟨g,rfl⟩:=HA6.out a rfl
        exact⟨g,rfl,(hob6 g rfl).1,(hob6 g rfl).2⟩
     obtain⟨_,_,he6,hc61,hc62⟩:=(Row.ofOwn O6.out (F:=fun _=>True) (fun _ _=>trivial)).form
     injection he6 with e1 _ e3
     subst e3
     clear e1
     unfold maxLen at hc62
     obtain⟨kv2,vv2,a1,a2,a3,a4⟩:=HCJ.out.at_ 2 (by rw[HLEN.out];omega)
     have e4:=FN.out.cell (O6.out.cells (g:=g6) rfl 4 _ a1) (by rw[add0];show ¬g6=n;omega)
     have e5:=FN.out.cell (O6.out.cells (g:=g6) rfl 5 _ a2) (by rw[add0];show ¬g6=n;omega)
     rw[add0] at e4 e5
     obtain⟨kA2,kc2,rfl,-⟩:=(show _ from a3).form
     obtain⟨vA2,vc2,rfl,-⟩:=(show _ from a4).form
     have HX2:=zhd a3
     have HX3:=zhd a4
     have hl2:(t.l.take i++x::t.l.drop i)[2]'(by rw[HLEN.out];omega)=(t.l.take i++x::t.l.drop i)[2]'(by rw[HLEN.out];omega):=rfl
     have HSPL:Hid ((t.l.take i++x::t.l.drop i).take 2++((t.l.take i++x::t.l.drop i)[2]'(by rw[HLEN.out];omega))::(t.l.take i++x::t.l.drop i).drop 3=t.l.take i++x::t.l.drop i):=zhd (zap (by rw[HLEN.out];omega))
     have HK2:Hid (KVok ((t.l.take i++x::t.l.drop i)[2]'(by rw[HLEN.out];omega))):=zhd (HKV'.out _ (List.getElem_mem _))
     generalize (t.l.take i++x::t.l.drop i)[2]'(by rw[HLEN.out];omega)=y2 at *
     have hI1:(2:Int)≤(c6:Int):=by omega
     have hI2:(3:Int)≤(t.l.length:Int)+1:=by omega
     have hI3:(2:Int)<(t.l.length:Int)+1:=by omega
     have hI4:(t.l.length:Int)+1≤(c6:Int):=by omega
     have hc3:¬c6=3:=by omega
     have H4:=zhd h4
     clear a1 a2 a3 a4 h4
     have hAB:=(((Fr.refl C0 (w6.setCell ⟨n,1,none⟩ (.slice (some ⟨g6,0,none⟩) (t.l.length+1) c6))).alloc (.cells #[.int .i64 0,.slice (some ⟨g6,0,none⟩) 2 2] 223)).alloc (.cells #[.int .i64 0,.slice (some ⟨g6,6,none⟩) (t.l.length-2) (c6-3)] 223)).blk HU7.out (fun h=>h)
     have hBA:=(((Fr.refl C0 (w6.setCell ⟨n,1,none⟩ (.slice (some ⟨g6,0,none⟩) (t.l.length+1) c6))).alloc (.cells #[.int .i64 0,.slice (some ⟨g6,6,none⟩) (t.l.length-2) (c6-3)] 223)).alloc (.cells #[.int .i64 0,.slice (some ⟨g6,0,none⟩) 2 2] 223)).blk HU7.out (fun h=>h)
     have ua0:=z2k hAB 0 rfl
     have ua1:=z2k hAB 1 rfl
     have za0:=z2i 0 hAB
     have za1:=z2i 1 hAB
     have ub0:=z2k hBA 0 rfl
     have ub1:=z2k hBA 1 rfl
     have zb0:=z2i 0 hBA
     have zb1:=z2i 1 hBA
     have HAB:=zhd hAB
     have HBA:=zhd hBA
     have hnu:¬n=w.heap.size+1:=by omega
     have hgu:¬g6=w.heap.size+1:=by omega
     clear hAB hBA
     have hWs:(w6.setCell ⟨n,1,none⟩ (.slice (some ⟨g6,0,none⟩) (t.l.length+1) c6)).heap.size=w6.heap.size:=by simp[go_sem]
     have HAA:Hid ((((w6.setCell ⟨n,1,none⟩ (.slice (some ⟨g6,0,none⟩) (t.l.length+1) c6)).alloc (.cells #[.int .i64 0,.slice (some ⟨g6,0,none⟩) 2 2] 223)).alloc (.cells #[.int .i64 0,.slice (some ⟨g6,6,none⟩) (t.l.length-2) (c6-3)] 223)).heap[w6.heap.size]?=some (.cells #[.int .i64 0,.slice (some ⟨g6,0,none⟩) 2 2] 223 (0,0))):=zhd (((Fr.refl C0 _).alloc _).blk (by have:=heap_alloc_new (w6.setCell ⟨n,1,none⟩ (.slice (some ⟨g6,0,none⟩) (t.l.length+1) c6)) (.cells #[.int .i64 0,.slice (some ⟨g6,0,none⟩) 2 2] 223);rwa [hWs] at this) (fun h=>h))
     have HAB2:Hid ((((w6.setCell ⟨n,1,none⟩ (.slice (some ⟨g6,0,none⟩) (t.l.length+1) c6)).alloc (.cells #[.int .i64 0,.slice (some ⟨g6,0,none⟩) 2 2] 223)).alloc (.cells #[.int .i64 0,.slice (some ⟨g6,6,none⟩) (t.l.length-2) (c6-3)] 223)).heap[w6.heap.size+1]?=some (.cells #[.int .i64 0,.slice (some ⟨g6,6,none⟩) (t.l.length-2) (c6-3)] 223 (0,0))):=zhd (by have:=heap_alloc_new ((w6.setCell ⟨n,1,none⟩ (.slice (some ⟨g6,0,none⟩) (t.l.length+1) c6)).alloc (.cells #[.int .i64 0,.slice (some ⟨g6,0,none⟩) 2 2] 223)) (.cells #[.int .i64 0,.slice (some ⟨g6,6,none⟩) (t.l.length-2) (c6-3)] 223);rwa [show((w6.setCell ⟨n,1,none⟩ (.slice (some ⟨g6,0,none⟩) (t.l.length+1) c6)).alloc (.cells #[.int .i64 0,.slice (some ⟨g6,0,none⟩) 2 2] 223)).heap.size=w6.heap.size+1 by simp[go_sem]] at this)
     have HBB:Hid ((((w6.setCell ⟨n,1,none⟩ (.slice (some ⟨g6,0,none⟩) (t.l.length+1) c6)).alloc (.cells #[.int .i64 0,.slice (some ⟨g6,6,none⟩) (t.l.length-2) (c6-3)] 223)).alloc (.cells #[.int .i64 0,.slice (some ⟨g6,0,none⟩) 2 2] 223)).heap[w6.heap.size]?=some (.cells #[.int .i64 0,.slice (some ⟨g6,6,none⟩) (t.l.length-2) (c6-3)] 223 (0,0))):=zhd (((Fr.refl C0 _).alloc _).blk (by have:=heap_alloc_new (w6.setCell ⟨n,1,none⟩ (.slice (some ⟨g6,0,none⟩) (t.l.length+1) c6)) (.cells #[.int .i64 0,.slice (some ⟨g6,6,none⟩) (t.l.length-2) (c6-3)] 223);rwa [hWs] at this) (fun h=>h))
     have HBA2:Hid ((((w6.setCell ⟨n,1,none⟩ (.slice (some ⟨g6,0,none⟩) (t.l.length+1) c6)).alloc (.cells #[.int .i64 0,.slice (some ⟨g6,6,none⟩) (t.l.length-2) (c6-3)] 223)).alloc (.cells #[.int .i64 0,.slice (some ⟨g6,0,none⟩) 2 2] 223)).heap[w6.heap.size+1]?=some (.cells #[.int .i64 0,.slice (some ⟨g6,0,none⟩) 2 2] 223 (0,0))):=zhd (by have:=heap_alloc_new ((w6.setCell ⟨n,1,none⟩ (.slice (some ⟨g6,0,none⟩) (t.l.length+1) c6)).alloc (.cells #[.int .i64 0,.slice (some ⟨g6,6,none⟩) (t.l.length-2) (c6-3)] 223)) (.cells #[.int .i64 0,.slice (some ⟨g6,0,none⟩) 2 2] 223);rwa [show((w6.setCell ⟨n,1,none⟩ (.slice (some ⟨g6,0,none⟩) (t.l.length+1) c6)).alloc (.cells #[.int .i64 0,.slice (some ⟨g6,6,none⟩) (t.l.length-2) (c6-3)] 223)).heap.size=w6.heap.size+1 by simp[go_sem]] at this)
     clear hWs
     have HTWO:Hid (∀(wf:World) (na nb:Nat),Fr (fun b=>b=w.heap.size+1) (w6.setCell ⟨n,1,none⟩ (.slice (some ⟨g6,0,none⟩) (t.l.length+1) c6)) wf→w6.heap.size≤na→w6.heap.size≤nb→na≠nb→wf.heap[na]?=some (.cells #[.int .i64 0,.slice (some ⟨g6,0,none⟩) 2 2] 223 (0,0))→wf.heap[nb]?=some (.cells #[.int .i64 0,.slice (some ⟨g6,6,none⟩) (t.l.length-2) (c6-3)] 223 (0,0))→PutRes c rn q w (pgs D) D.blocks 1 m t x wp tp gone (.returned (.tuple #[wLeaf na,wLeaf nb,.agg #[.slice kA2 y2.1.length kc2,.slice vA2 y2.2.length vc2],.bool true])) wf):=by
      refine zhd fun wf na nb hFU hna hnb hne hba hbb=>?_
      have h4:=H4.out
      have hFT:=(FN.out.mono (C2:=fun b=>b=n∨b=w.heap.size+1) (fun _ _ h=>.inl h)).trans (hFU.mono (C2:=fun b=>b=n∨b=w.heap.size+1) (fun _ _ h=>.inr h)) (fun _ _ h=>h)
      have hsf:=hFT.size
      have hla:=(Array.getElem?_eq_some_iff.1 hba).1
      have hlb:=(Array.getElem?_eq_some_iff.1 hbb).1
      have hoo:∀b,b<w6.heap.size→ownN c1 [na,nb] rn b=c1 b:=fun b hb=>z8n (by simp;omega)
      have hcf:=(HCJ.out.fr hFT (fun b h e=>e.elim h.1.2.1 h.1.2.2)).mono (F':=Dt (ownN c1 [na,nb] rn)) (fun b h _=>by show ownN c1 [na,nb] rn b=0;rw[hoo b (by omega)];exact h.1.1)
      have hro:=z0m O6.out hFT (fun b e h=>by have:=hob6 b e;omega)
      have hrow:Row (Dt (ownN c1 [na,nb] rn)) wf (.slice (some ⟨g6,0,none⟩) (t.l.length+1) c6) (t.l.length+1) 2 (xs.take (i*2)++[.slice kA x.1.length kc,.slice vA x.2.length vc]++xs.drop (i*2)):=Row.ofOwn hro (fun b e=>by have:=hob6 b e;show ownN c1 [na,nb] rn b=0;rw[hoo b (by omega)];exact HCL1.out b (by omega))
      have hlA:((t.l.take i++x::t.l.drop i).take 2).length=2:=by rw[List.length_take,HLEN.out];omega
      have hlB:((t.l.take i++x::t.l.drop i).drop 3).length=2:=by rw[List.length_drop,HLEN.out];omega
      have hrA:=(hrow.take (i:=2) (by omega))
      have hrB:=(hrow.drop (i:=3) (by omega))
      rw[if_neg (show ¬c6=3 by omega)] at hrB
      simp only[Option.map_some,add0] at hrB
      rw[show t.l.length+1-3=2 by omega] at hrB
      rw[show t.l.length-2=2 by omega] at hbb
      have hiA:ItemsAt (Dt (ownN c1 [na,nb] rn)) wf (.slice (some ⟨g6,0,none⟩) 2 2) ((t.l.take i++x::t.l.drop i).take 2):=by
       refine ItemsAt.ofCells ?_ (hcf.take 2)
       rw[hlA]
       exact hrA.cap (Nat.le_refl _) (by unfold maxLen;omega)
      have hiB:ItemsAt (Dt (ownN c1 [na,nb] rn)) wf (.slice (some ⟨g6,6,none⟩) 2 (c6-3)) ((t.l.take i++x::t.l.drop i).drop 3):=by
       refine ItemsAt.ofCells ?_ (hcf.drop 3)
       rw[hlB]
       exact hrB
      have hwk:WorkAt (ownN c1 [na,nb] rn) q wf wp tp (gone++goneOf t):=(hw6.out.ag (c':=ownN c1 [na,nb] rn) (fun b hb=>hoo b hb)).fr hFT (fun b h e=>by
       rcases h with h|h
       · rw[h,hoo n (by omega),hcn] at e;exact hq0 e.symm
       · rw[h,hoo _ (by omega),hcu1] at e;exact hq2 e)
      have hmo:(true:Bool)=decide (getL x.1 (flat 1 t)=none):=by rw[HFL.out];simp[HGN.out]
      have hk2:=(HX2.out.fr hFT (fun b h e=>e.elim h.1.2.1 h.1.2.2)).mono (F':=Dt (ownN c1 [na,nb] rn)) (fun b h _=>by show ownN c1 [na,nb] rn b=0;rw[hoo b (by omega)];exact h.1.1)
      have hv2:=(HX3.out.fr hFT (fun b h e=>e.elim h.1.2.1 h.1.2.2)).mono (F':=Dt (ownN c1 [na,nb] rn)) (fun b h _=>by show ownN c1 [na,nb] rn b=0;rw[hoo b (by omega)];exact h.1.1)
      refine PutRes.mk (((FW1.out.trans0 F5.out).trans0 F6.out).trans hFT (fun b hb h=>by omega)) ⟨ownN c1 [na,nb] rn,gone++goneOf t,fun b hb=>(hoo b (by omega)).trans (hag1 b hb),z8p (HCL1.out.mono (by omega)) (fun b hb=>by simp at hb;omega),hwk,by rw[List.length_append];have:=zay t;omega,?_⟩
      rw[←hmo]
      exact .two rfl (z8r hba hiA (z8m (by simp))) (z8r hbb hiB (z8m (by simp))) ⟨by omega,by omega,fun y hy=>HKV'.out y (List.mem_of_mem_take hy),rfl⟩ ⟨by omega,by omega,fun y hy=>HKV'.out y (List.mem_of_mem_drop hy),rfl⟩ hk2 hv2 HK2.out (by rw[HFL.out,HPL.out];exact HSPL.out) (zax HSHP.out (by omega) (by omega) hne)
     go_wp2_with fail
     refine z1z (Fr (fun b=>b=w.heap.size+1) (w6.setCell ⟨n,1,none⟩ (.slice (some ⟨g6,0,none⟩) (t.l.length+1) c6))) [] (by kernel_rfl) ?_
     have hSw0:(Fr (fun b=>b=w.heap.size+1) (w6.setCell ⟨n,1,none⟩ (.slice (some ⟨g6,0,none⟩) (t.l.length+1) c6))) _:=(Fr.refl _ _).drew
     refine tk 0 hSw0 ?_
     refine tk 1 hSw0 ?_
     refine tk 2 hSw0 ?_
     refine tk 3 hSw0 ?_ (hy:=by intro w_ hS_;have b0:=hS_.cell p1 hnu;have b1:=hS_.cell e4 hgu;have b2:=hS_.cell e5 hgu;first|(go_simp;done)|(go_simp;with_reducible rfl))
     refine tk 4 hSw0 ?_
     refine tk 5 hSw0 ?_
     refine tk 8 hSw0 ?_
     refine tk 9 hSw0 ?_
     refine tk 10 hSw0 ?_
     refine tk 11 hSw0 ?_ (hy:=by intro w_ hS_;have b0:=hS_.cell p1 hnu;have b1:=hS_.cell e4 hgu;have b2:=hS_.cell e5 hgu;first|(go_simp;done)|(go_simp;with_reducible rfl))
     refine tk 12 hSw0 ?_
     refine tk 13 hSw0 ?_
     refine tk 16 hSw0 ?_
     refine tk 17 hSw0 ?_
     refine tk 18 hSw0 ?_
     refine tk 19 hSw0 ?_ (hy:=by intro w_ hS_;have b0:=hS_.cell p1 hnu;have b1:=hS_.cell e4 hgu;have b2:=hS_.cell e5 hgu;first|(go_simp;done)|(go_simp;with_reducible rfl))
     refine tk 20 hSw0 ?_
     refine tk 21 hSw0 ?_ (hy:=by intro w_ hS_;have b0:=hS_.cell p1 hnu;have b1:=hS_.cell e4 hgu;have b2:=hS_.cell e5 hgu;first|(go_simp;done)|(go_simp;with_reducible rfl))
     refine z1x 6 14 rfl rfl (by kernel_rfl) rfl rfl (fun K hK=>?_) (fun K hK=>?_)
     · skip
       go_simp
       refine hK.out _ _ ?kS5 (fun hSw1=>?kR5)
       case kS5=>first|exact((Fr.refl _ _).alloc _).drew|exact(((Fr.refl _ _).alloc _).alloc _).drew
       clear hK K
       try simp only[Act.put,zs1,zs2,zs3]
       refine tk 7 hSw1 ?_
       refine tk 22 hSw1 ?_
       refine one_ 14 rfl (fun K hK=>?_)
       go_simp
       refine hK.out _ _ ?kS6 (fun hSw2=>?kR6)
       case kS6=>first|exact((Fr.refl _ _).alloc _).drew|exact(((Fr.refl _ _).alloc _).alloc _).drew
       clear hK K
       try simp only[Act.put,zs1,zs2,zs3]
       refine tk 15 hSw2 ?_
       refine tk 23 hSw2 ?_
       refine one_ 24 rfl (fun K hK=>?_)
       go_simp
       refine hK.out _ _ ?kS7 (fun hSw3=>?kR7)
       case kS7=>exact(((((Fr.refl (fun b=>b=w.heap.size+1) _).alloc _).alloc _).setCell (p:=⟨w.heap.size+1,0,none⟩) (.inr rfl) _).setCell (p:=⟨w.heap.size+1,1,none⟩) (.inr rfl) _).drew
       clear hK K
       try simp only[Act.put,zs1,zs2,zs3]
       refine tk 25 hSw3 ?_
       refine z1y (by kernel_rfl) ?_ _
       go_wp2_with fail
       first
        | (refine ret4 (p := 8) (g := w.heap.size + 1) rfl rfl (z2j (i := 1) (z2j (i := 0) HAB.out (.slice kA2 y2.1.length kc2)) (.slice vA2 y2.2.length vc2)) Tryz.underlying200 rfl (by kernel_rfl) rfl ?_
           refine HTWO.out _ w6.heap.size (w6.heap.size+1) (by assumption) (Nat.le_refl _) (by omega) (by omega) ?_ ?_
           · exact((((Fr.refl (fun b=>b=w.heap.size+1) _).setCell (p:=⟨w.heap.size+1,0,none⟩) (.inr rfl) _).setCell (p:=⟨w.heap.size+1,1,none⟩) (.inr rfl) _).drew).blk HAA.out (by omega)
           · exact((((Fr.refl (fun b=>b=w.heap.size+1) _).setCell (p:=⟨w.heap.size+1,0,none⟩) (.inr rfl) _).setCell (p:=⟨w.heap.size+1,1,none⟩) (.inr rfl) _).drew).blk HAB2.out (by omega))
        | (refine ret4 (p := 8) (g := w.heap.size + 1) rfl rfl (z2j (i := 1) (z2j (i := 0) HBA.out (.slice kA2 y2.1.length kc2)) (.slice vA2 y2.2.length vc2)) Tryz.underlying200 rfl (by kernel_rfl) rfl ?_
           refine HTWO.out _ (w6.heap.size+1) w6.heap.size (by assumption) (by omega) (Nat.le_refl _) (by omega) ?_ ?_
           · exact((((Fr.refl (fun b=>b=w.heap.size+1) _).setCell (p:=⟨w.heap.size+1,0,none⟩) (.inr rfl) _).setCell (p:=⟨w.heap.size+1,1,none⟩) (.inr rfl) _).drew).blk HBA2.out (by omega)
           · exact((((Fr.refl (fun b=>b=w.heap.size+1) _).setCell (p:=⟨w.heap.size+1,0,none⟩) (.inr rfl) _).setCell (p:=⟨w.heap.size+1,1,none⟩) (.inr rfl) _).drew).blk HBB.out (by omega))
     · skip
       go_simp
       refine hK.out _ _ ?kS8 (fun hSw4=>?kR8)
       case kS8=>first|exact((Fr.refl _ _).alloc _).drew|exact(((Fr.refl _ _).alloc _).alloc _).drew
       clear hK K
       try simp only[Act.put,zs1,zs2,zs3]
       refine tk 15 hSw4 ?_
       refine one_ 6 rfl (fun K hK=>?_)
       go_simp
       refine hK.out _ _ ?kS9 (fun hSw5=>?kR9)
       case kS9=>first|exact((Fr.refl _ _).alloc _).drew|exact(((Fr.refl _ _).alloc _).alloc _).drew
       clear hK K
       try simp only[Act.put,zs1,zs2,zs3]
       refine tk 7 hSw5 ?_
       refine tk 22 hSw5 ?_
       refine tk 23 hSw5 ?_
       refine one_ 24 rfl (fun K hK=>?_)
       go_simp
       refine hK.out _ _ ?kS10 (fun hSw6=>?kR10)
       case kS10=>exact(((((Fr.refl (fun b=>b=w.heap.size+1) _).alloc _).alloc _).setCell (p:=⟨w.heap.size+1,0,none⟩) (.inr rfl) _).setCell (p:=⟨w.heap.size+1,1,none⟩) (.inr rfl) _).drew
       clear hK K
       try simp only[Act.put,zs1,zs2,zs3]
       refine tk 25 hSw6 ?_
       refine z1y (by kernel_rfl) ?_ _
       go_wp2_with fail
       first
        | (refine ret4 (p := 8) (g := w.heap.size + 1) rfl rfl (z2j (i := 1) (z2j (i := 0) HAB.out (.slice kA2 y2.1.length kc2)) (.slice vA2 y2.2.length vc2)) Tryz.underlying200 rfl (by kernel_rfl) rfl ?_
           refine HTWO.out _ w6.heap.size (w6.heap.size+1) (by assumption) (Nat.le_refl _) (by omega) (by omega) ?_ ?_
           · exact((((Fr.refl (fun b=>b=w.heap.size+1) _).setCell (p:=⟨w.heap.size+1,0,none⟩) (.inr rfl) _).setCell (p:=⟨w.heap.size+1,1,none⟩) (.inr rfl) _).drew).blk HAA.out (by omega)
           · exact((((Fr.refl (fun b=>b=w.heap.size+1) _).setCell (p:=⟨w.heap.size+1,0,none⟩) (.inr rfl) _).setCell (p:=⟨w.heap.size+1,1,none⟩) (.inr rfl) _).drew).blk HAB2.out (by omega))
        | (refine ret4 (p := 8) (g := w.heap.size + 1) rfl rfl (z2j (i := 1) (z2j (i := 0) HBA.out (.slice kA2 y2.1.length kc2)) (.slice vA2 y2.2.length vc2)) Tryz.underlying200 rfl (by kernel_rfl) rfl ?_
           refine HTWO.out _ (w6.heap.size+1) w6.heap.size (by assumption) (by omega) (Nat.le_refl _) (by omega) ?_ ?_
           · exact((((Fr.refl (fun b=>b=w.heap.size+1) _).setCell (p:=⟨w.heap.size+1,0,none⟩) (.inr rfl) _).setCell (p:=⟨w.heap.size+1,1,none⟩) (.inr rfl) _).drew).blk HBA2.out (by omega)
           · exact((((Fr.refl (fun b=>b=w.heap.size+1) _).setCell (p:=⟨w.heap.size+1,0,none⟩) (.inr rfl) _).setCell (p:=⟨w.heap.size+1,1,none⟩) (.inr rfl) _).drew).blk HBB.out (by omega))
end
end Go.Proofs.YtidalepbkljkpaaGreat
