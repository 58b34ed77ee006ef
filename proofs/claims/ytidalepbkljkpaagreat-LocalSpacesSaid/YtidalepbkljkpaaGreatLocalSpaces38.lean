import Derived.Test.YtidalepbkljkpaaGreatLocalSpaces37
import Derived.Deep.CutRange
import Derived.Deep.CutBlock
import Derived.Deep.DeepCutAuto
import Derived.Test.YtidalepbkljkpaaGreatLocalSpaces33
set_option linter.all false
namespace Go.Proofs.YtidalepbkljkpaaGreat
open Go.RowKit Go.H
set_option maxRecDepth 100000
section
set_option maxHeartbeats 40000000
theorem zh6 {c:Nat→Nat} {r rn q qn:Nat} {w:World} {tp st wp n d i:Nat} {S:SSt} {D:DSt} {l:List KV} {ks:List T} {gone:List Nat} (hq0:q≠0) (hqr:q≠r) (hqn:q≠rn) (hn0:qn≠0) (hnr:qn≠r) (hnn:qn≠rn) (hnq:qn≠q) (hr0:rn≠0) (hh:Hd c r w tp st S D) (hc:Cl w c) (hw:WorkAt c q w wp tp gone) (ho:InnerOpen c qn rn w (pgs D) D.blocks (d+1) n l ks)
 (hlen:ks.length=l.length+1) (hl1:1≤l.length) (hl4:l.length≤4) (hkv:∀y∈l,KVok y) (hi:i<ks.length) (hlow:Shape (d+1) 1 ks[i]) (hmem:T.isMem' ks[i]) (hoth:∀j (h:j<ks.length),j≠i→Shape (d+1) 2 ks[j]) (hgl:gone.length≤1000000) :
 Calls Tryz.prog 163 #[.pointer (some ⟨wp,0,none⟩),.pointer (some ⟨n,0,none⟩),.int .i64 i] w fun e w'=>e=.returned (.tuple #[])∧MendRes c qn rn q w (pgs D) D.blocks (d+1) n l ks wp tp gone w':=by
 have HO:=zhd ho
 obtain⟨lv,kv,xs,kvs,b1,ol,ic,ok,ka,cn,clv,ckv⟩:=ho
 have hkl:=All2.length ka
 obtain⟨A,kc,rfl,hA⟩:=z0o ok
 obtain⟨g,rfl⟩:∃g,A=some ⟨g,0,none⟩:=by
  cases A with
  | none =>
    rcases ok.2 with⟨e',h0⟩|⟨g,cap,cur,e',_⟩
    · omega
    · cases e'
  |some a=>obtain⟨g,rfl⟩:=hA a rfl;exact⟨g,rfl⟩
 obtain⟨A2,lc,rfl,hA2⟩:=z0o ol
 obtain⟨a0,rfl⟩:∃g,A2=some ⟨g,0,none⟩:=by
  cases A2 with
  | none =>
    rcases ol.2 with⟨e',h0⟩|⟨g,cap,cur,e',_⟩
    · omega
    · cases e'
  |some a=>obtain⟨g,rfl⟩:=hA2 a rfl;exact⟨g,rfl⟩
 have hci:=(clv a0 rfl)
 have hck:=(ckv g rfl)
 have m1:=z2k b1 1 rfl
 have m2:=z2k b1 2 rfl
 have hiv:i<kvs.length:=by omega
 have hz:∀b o,w.heap.size≤b→sumN (ks.map (cnt (d+1) (.cl b o)))=0:=fun b o hb=>All2.cl0 ka hb
 have kids:∀j (h:j<ks.length) (h2:j<kvs.length),Rep c rn w (pgs D) D.blocks False (d+1) ks[j] kvs[j]:=fun j h h2=>All2.at_ j h h2 ka
 have cell:∀j (h2:j<kvs.length),w.cell? ⟨g,j,none⟩=some kvs[j]:=fun j h2=>by have:=ok.cells (g:=g) rfl j _ (List.getElem?_eq_getElem h2);rwa [add0] at this
 have KIDS:=zhd kids
 have CELL:=zhd cell
 have ki:=kids i hi hiv
 have ci:=cell i hiv
 have hii:(i:Int)<(kvs.length:Int):=by omega
 have hil:(i:Int)<(kc:Int):=by
  obtain⟨_,_,he,h1,h2⟩:=(Row.ofOwn ok (F:=fun _=>True) (fun _ _=>trivial)).form
  injection he with _ _ he
  omega
 obtain⟨nm,il,iks,hki⟩:∃nm il iks,ks[i]=.node nm il iks:=by cases ks[i] with|node a b c=>exact⟨a,b,c,rfl⟩
 rw[hki] at ki hmem hlow
 obtain⟨ni,gi,oi,hnm⟩:=hmem
 obtain rfl:nm=.mem ni gi oi:=hnm
 obtain⟨ikv,nat,_⟩:=ki
 obtain⟨ilv,hit,hic⟩:=z7g nat
 have HIT:=zhd hic
 obtain⟨ixs,hir,hix⟩:=hit.cells
 obtain⟨iA,ic2,rfl,-,-⟩:=hir.form
 have hvi:∃tx y,kvs[i]=.iface tx y:=(kids i hi hiv).iface
 obtain⟨txi,yi,hvi⟩:=hvi
 rw[hvi] at ci HIT
 have HKI:=zhd hki
 have HVI:=zhd hvi
 have HLOW:=zhd hlow
 have hil1:1≤il.length:=hlow.1
 have hil4:il.length≤4:=hlow.2.1
 have HB1:=zhd b1
 have OL:=zhd ol
 have IC:=zhd ic
 have OKK:=zhd ok
 have KA:=zhd ka
 have HCN:=zhd cn
 have HCI:=zhd hci
 have HCK:=zhd hck
 have HH:=zhd hh
 have HC:=zhd hc
 have HW:=zhd hw
 have HZ:=zhd hz
 have HOTH:=zhd hoth
 have HKV:=zhd hkv
 have hnl:=(Array.getElem?_eq_some_iff.1 b1).1
 clear b1 ol ic ok ka cn clv ckv hci hck hh hc hw hz hoth hkv kids cell nat hit hir hix hki hvi hlow hA hA2 hic
 by_cases h2:2≤il.length
 · have h2i:(2:Int)≤(il.length:Int):=by omega
   go_enter Tryz.func163,Tryz.ntmps163
   go_wp2_with fail
   refine(HIT.out _ (Fr.refl C0 w)).mono ?_
   rintro e w1 ⟨rfl,rfl⟩
   go_wp2
   refine bodyPost_ret (results_none rfl _ _ _) rfl ?_
   refine⟨rfl,(Fr.refl _ _),c,l,ks,gone,Ag.refl _ _,HC.out,HW.out,HO.out,hlen,fun k hk=>?_,HKV.out,by omega,Nat.le_refl _,rfl,(AccL.refl HZ.out).le (by omega),by omega⟩
   obtain⟨j,hj,rfl⟩:=List.getElem_of_mem hk
   by_cases e:j=i
   · subst e
     rw[HKI.out]
     exact⟨h2,HLOW.out.2⟩
   · exact HOTH.out j hj e
 · have h2i:¬(2:Int)≤(il.length:Int):=by omega
   obtain⟨a,ha1,ha2,hmx⟩:∃a:Nat,a+1<ks.length∧(i=a∧a=0∨i=a+1)∧(if (i:Int)-1<0 then(0:Int) else(i:Int)-1)=(a:Int):=by
    rcases Nat.eq_zero_or_pos i with e|e
    · exact⟨0,by omega,.inl ⟨e,rfl⟩,by subst e;rfl⟩
    · exact⟨i-1,by omega,.inr (by omega),by rw[if_neg (by omega)];omega⟩
   have HA:=zhd ha2
   have hav:a<kvs.length:=by omega
   have hav1:a+1<kvs.length:=by omega
   have ca:=CELL.out a hav
   have ca1:=CELL.out (a+1) hav1
   have RA:=zhd (KIDS.out a (by omega) hav)
   have RB:=zhd (KIDS.out (a+1) ha1 hav1)
   obtain⟨txa,ya,hva⟩:=RA.out.iface
   obtain⟨txb,yb,hvb⟩:=RB.out.iface
   rw[hva] at RA ca
   rw[hvb] at RB ca1
   have hai:(a:Int)<(kvs.length:Int):=by omega
   have hai1:(a:Int)+1<(kvs.length:Int):=by omega
   have hai0:0≤(a:Int)+1:=by omega
   have hwra:IntKind.i64.wrap ((a:Int)+1)=(a:Int)+1:=z0t _ (by omega) (by omega)
   obtain⟨b,hbe⟩:∃b,((a:Int) == (i:Int))=b:=⟨_,rfl⟩
   have HBE:=zhd hbe
   have HVA:=zhd hva
   have HVB:=zhd hvb
   clear ha2 hva hvb
   go_enter Tryz.func163,Tryz.ntmps163
   go_wp2_with fail
   refine(HIT.out _ (Fr.refl C0 w)).mono ?_
   rintro e w1 ⟨rfl,rfl⟩
   go_wp2_with fail
   refine z1z (Fr C0 w) [] (by kernel_rfl) ?_
   have hSw0:(Fr C0 w) _:=(Fr.refl C0 w).drew
   refine tk 0 hSw0 ?_
   refine tk 1 hSw0 ?_
   refine tk 2 hSw0 ?_
   refine tk 3 hSw0 ?_ (hy:=by intro w_ hS_;have e0:=hS_.cell0 m2;have e1:=hS_.cell0 ca;have e2:=hS_.cell0 ca1;first|(go_simp;done)|(go_simp;with_reducible rfl))
   refine tk 4 hSw0 ?_
   refine tk 5 hSw0 ?_
   refine tk 6 hSw0 ?_ (hy:=by intro w_ hS_;have e0:=hS_.cell0 m2;have e1:=hS_.cell0 ca;have e2:=hS_.cell0 ca1;first|(go_simp;done)|(go_simp;with_reducible rfl))
   refine tk 7 hSw0 ?_
   refine tk 8 hSw0 ?_
   refine tk 9 hSw0 ?_
   refine tk 10 hSw0 ?_ (hy:=by intro w_ hS_;have e0:=hS_.cell0 m2;have e1:=hS_.cell0 ca;have e2:=hS_.cell0 ca1;first|(go_simp;done)|(go_simp;with_reducible rfl))
   refine tk 11 hSw0 ?_
   refine tk 12 hSw0 ?_
   refine tk 13 hSw0 ?_
   refine tk 14 hSw0 ?_ (hy:=by intro w_ hS_;have e0:=hS_.cell0 m2;have e1:=hS_.cell0 ca;have e2:=hS_.cell0 ca1;first|(go_simp;done)|(go_simp;with_reducible rfl))
   refine tk 15 hSw0 ?_
   refine tk 16 hSw0 ?_
   refine z1y (by kernel_rfl) ?_ _
   go_upto_if 40 with fail
   go_cut [7,8] (fun lf rt wx=>∃t1 z1 t2 z2,lf=.iface t1 z1∧rt=.iface t2 z2∧Hid (∃c1 gone1,MendMid c c1 rn q w wx (pgs D) D.blocks d (ks[a]'(by omega)) (ks[a+1]'(by omega)) (.iface t1 z1) (.iface t2 z2) wp tp gone gone1))
   case first=>
    have HPB:=zhd (fun (c1:Nat→Nat) (w_:World) (hag:Ag w.heap.size c c1) (hf:Fr (fun b=>c b=q) w w_) (v:Value) (t:T) (hr:Rep c rn w (pgs D) D.blocks False (d+1) t v)=>show Rep c1 rn w_ (pgs D) D.blocks False (d+1) t v from by
     have hb:∀b,c b=q→c1 b=q:=fun b e=>by
      by_cases hl:b<w.heap.size
      · rw[hag b hl];exact e
      · exact absurd ((HC.out b (by omega)).symm.trans e) (fun k=>hq0 k.symm)
     exact Rep.fr hf (fun b e k=>hqn ((hb b e).symm.trans k)) (fun b e k=>hq0 ((hb b e).symm.trans k)) (Rep.ag hag hr))
    have hs2:=fun j (h:j<ks.length) (e:j≠i)=>HOTH.out j h e
    cases b with
    | true =>
      obtain rfl:i=a:=by have:=HBE.out;simp at this;omega
      have HS:=zhd (hs2 (i+1) ha1 (by omega))
      go_wp2_with fail
      refine(zgs hq0 hqr hqn (HH.out.fr0 (Fr.refl C0 w).drew) (HC.out.mono (by simp)) (HW.out.fr0 (Fr.refl C0 w).drew) (RB.out.fr0 (Fr.refl C0 w).drew) HS.out (by omega) hgl).mono ?_
      rintro e w2 ⟨f2,tx2,y2,rfl,c2,nn,gg,ag2,cl2,wk2,r2⟩
      have F2:=zhd (((Fr.refl (fun b=>c b=q) w).drew).trans f2 (fun _ _ h=>h))
      have RA2:=HPB.out c2 w2 ag2 F2.out _ _ RA.out
      have he:=zh0 HKI.out
      have hgo:goneOf ks[i]=[]:=zgq ⟨ni,gi,oi,by rw[HKI.out];rfl⟩
      rw[he] at RA2
      have MID:=zhd (show MendMid c c2 rn q w w2 (pgs D) D.blocks d ks[i] ks[i+1] (.iface txa ya) (.iface tx2 y2) wp tp gone (gone++goneOf ks[i+1]) from⟨F2.out,ag2,cl2,wk2,zgz (by rw[HKI.out];exact HLOW.out) HS.out ⟨_,_,_,RA2⟩ ⟨_,_,_,r2⟩,fun id=>by rw[hgo,List.count_append];simp,by rw[List.length_append];have:=zay ks[i+1];omega⟩)
      clear RA2 he hgo f2 ag2 cl2 wk2 r2 HPB hs2
      go_wp2
      go_meet
      case rel=>exact⟨_,_,_,_,rfl,rfl,zhd ⟨_,_,MID.out⟩⟩
    | false =>
      obtain rfl:i=a+1:=by
       have h1:=HA.out
       have h2:=HBE.out
       rcases h1 with h1|h1
       · rw[h1.1] at h2;simp at h2
       · exact h1
      have HS:=zhd (hs2 a (by omega) (by omega))
      go_wp2_with fail
      refine(zgs hq0 hqr hqn (HH.out.fr0 (Fr.refl C0 w).drew) (HC.out.mono (by simp)) (HW.out.fr0 (Fr.refl C0 w).drew) (RA.out.fr0 (Fr.refl C0 w).drew) HS.out (by omega) hgl).mono ?_
      rintro e w2 ⟨f2,tx2,y2,rfl,c2,nn,gg,ag2,cl2,wk2,r2⟩
      have F2:=zhd (((Fr.refl (fun b=>c b=q) w).drew).trans f2 (fun _ _ h=>h))
      have RB2:=HPB.out c2 w2 ag2 F2.out _ _ RB.out
      have he:=zh0 HKI.out
      have hgo:goneOf ks[a+1]=[]:=zgq ⟨ni,gi,oi,by rw[HKI.out];rfl⟩
      rw[he] at RB2
      have MID:=zhd (show MendMid c c2 rn q w w2 (pgs D) D.blocks d ks[a] ks[a+1] (.iface tx2 y2) (.iface txb yb) wp tp gone (gone++goneOf ks[a]) from⟨F2.out,ag2,cl2,wk2,zgz HS.out (by rw[HKI.out];exact HLOW.out) ⟨_,_,_,r2⟩ ⟨_,_,_,RB2⟩,fun id=>by rw[hgo,List.count_append];simp,by rw[List.length_append];have:=zay ks[a];omega⟩)
      clear RB2 he hgo f2 ag2 cl2 wk2 r2 HPB hs2
      go_wp2
      go_meet
      case rel=>exact⟨_,_,_,_,rfl,rfl,zhd ⟨_,_,MID.out⟩⟩
   case rest=>
    obtain⟨t1,z1,t2,z2,rfl,rfl,HM⟩:=hcut
    obtain⟨c1,gone1,mid⟩:=HM.out
    have M:=zhd mid
    have hcq:∀b,c b=q→c1 b=q:=fun b e=>by
     by_cases hl:b<w.heap.size
     · rw[mid.ag b hl];exact e
     · exact absurd ((HC.out b (by omega)).symm.trans e) (fun k=>hq0 k.symm)
    have OC:=zhd ((HO.out.ag mid.ag).fr mid.fr (fun b e=>by rw[hcq b e];exact⟨fun k=>hnq k.symm,hqn,hq0⟩))
    obtain⟨⟨n1,g1,o1,kv1,nat1,_⟩,⟨n2,g2,o2,kv2,nat2,_⟩,_,_,_⟩:=mid.pair
    obtain⟨lv1,hit1,hc1⟩:=z7g nat1
    obtain⟨lv2,hit2,hc2⟩:=z7g nat2
    obtain⟨_,rr1,_⟩:=hit1.cells
    obtain⟨_,rr2,_⟩:=hit2.cells
    obtain⟨P1,p1,rfl,-,-⟩:=rr1.form
    obtain⟨P2,p2,rfl,-,-⟩:=rr2.form
    have HI1:=zhd (hc1 wc (Fr.refl _ _))
    have HI2:=zhd (hc2 wc (Fr.refl _ _))
    obtain⟨lv,kv,xs,kvs,b1,ol,ic,ok,ka,cn,clv,ckv⟩:=OC.out
    have S1:Hid (Shape (d+1) 1 ks[a]):=zhd (by
     rcases HA.out with⟨e,-⟩|e
     · subst e;rw[HKI.out];exact HLOW.out
     · exact(HOTH.out a (by omega) (by omega)).mono (by omega))
    have S2:Hid (Shape (d+1) 1 ks[a+1]):=zhd (by
     rcases HA.out with⟨e,-⟩|e
     · exact(HOTH.out (a+1) (by omega) (by omega)).mono (by omega)
     · subst e;rw[HKI.out];exact HLOW.out)
    have HS3:Hid (ks[a].l.length+ks[a+1].l.length≤5∧3≤ks[a].l.length+ks[a+1].l.length):=zhd (by
     rcases HA.out with⟨e,-⟩|e
     · subst e
       have h3:=zgt (HOTH.out (i+1) (by omega) (by omega))
       have h4:ks[i].l.length=il.length:=by rw[HKI.out];rfl
       omega
     · subst e
       have h3:=zgt (HOTH.out a (by omega) (by omega))
       have h4:ks[a+1].l.length=il.length:=by rw[HKI.out];rfl
       omega)
    obtain⟨m1,hm1⟩:∃m,m=ks[a].l.length:=⟨_,rfl⟩
    obtain⟨m2,hm2⟩:∃m,m=ks[a+1].l.length:=⟨_,rfl⟩
    rw[←hm1] at HI1
    rw[←hm2] at HI2
    have hm12:=HS3.out
    rw[←hm1,←hm2] at hm12
    have HM1:=zhd hm1
    have HM2:=zhd hm2
    have hkl2:=All2.length ka
    have hac:a+1<kvs.length:=by omega
    have hal:a<l.length:=by omega
    have hxl:=ol.1
    obtain⟨hm12a,hm12b⟩:=hm12
    obtain⟨A,kc2,rfl,hA⟩:=z0o ok
    obtain⟨G,rfl⟩:∃g,A=some ⟨g,0,none⟩:=by
     cases A with
     | none =>
       rcases ok.2 with⟨e',h0⟩|⟨g,cap,cur,e',_⟩
       · omega
       · cases e'
     |some a=>obtain⟨g,rfl⟩:=hA a rfl;exact⟨g,rfl⟩
    obtain⟨A2,lc2,rfl,hA2⟩:=z0o ol
    obtain⟨L0,rfl⟩:∃g,A2=some ⟨g,0,none⟩:=by
     cases A2 with
     | none =>
       rcases ol.2 with⟨e',h0⟩|⟨g,cap,cur,e',_⟩
       · omega
       · cases e'
     |some a=>obtain⟨g,rfl⟩:=hA2 a rfl;exact⟨g,rfl⟩
    have k1:=z2k b1 1 rfl
    have k2:=z2k b1 2 rfl
    have hsw:=M.out.fr.size
    have hnl2:=(Array.getElem?_eq_some_iff.1 b1).1
    have hgl2:=(ok.lt G rfl).2
    have hll2:=(ol.lt L0 rfl).2
    have hi2:a*2<xs.length:=by omega
    have hi3:a*2+1<xs.length:=by omega
    have z0:=ol.cells (g:=L0) rfl (a*2) _ (List.getElem?_eq_getElem hi2)
    have z1:=ol.cells (g:=L0) rfl (a*2+1) _ (List.getElem?_eq_getElem hi3)
    rw[add0] at z0 z1
    obtain⟨mk,mv,e1,e2,bk,bv⟩:=ic.at_ a hal
    rw[List.getElem?_eq_getElem hi2] at e1
    rw[List.getElem?_eq_getElem hi3] at e2
    injection e1 with e1
    injection e2 with e2
    rw[e1] at z0
    rw[e2] at z1
    have BK:=zhd bk
    have BV:=zhd bv
    obtain⟨mA,mc,rfl,-⟩:=bk.form
    obtain⟨mB,me,rfl,-⟩:=bv.form
    obtain⟨_,_,hek,hkc1,hkc2⟩:=(Row.ofOwn ok (F:=fun _=>True) (fun _ _=>trivial)).form
    injection hek with he1 _ hek
    subst he1
    subst hek
    obtain⟨_,_,hel,hlc1,hlc2⟩:=(Row.ofOwn ol (F:=fun _=>True) (fun _ _=>trivial)).form
    injection hel with he1 _ hel
    subst he1
    subst hel
    clear OL IC OKK KA
    have B1:=zhd b1
    have OL:=zhd ol
    have IC:=zhd ic
    have OKK:=zhd ok
    have KA:=zhd ka
    have CN:=zhd cn
    have CLV:=zhd (clv L0 rfl)
    have CKV:=zhd (ckv G rfl)
    clear b1 ol ic ok ka cn clv ckv hA hA2 bk bv e1 e2
    clear hm1 hm2 mid hcq nat1 nat2 hit1 hit2 hc1 hc2 rr1 rr2 KIDS CELL HIT RA RB HB1 HVA HVB HVI HCI HCK
    have hac1:(a:Int)+1<(kvs.length:Int):=by omega
    have hac0:(a:Int)<(kvs.length:Int):=by omega
    have hall:(a:Int)<(l.length:Int):=by omega
    by_cases h4:m1+1+m2≤4
    · have h4i:(m1:Int)+1+(m2:Int)≤4:=by omega
      go_wp2_with fail
      refine HI1.out.mono ?_
      rintro e w3 ⟨rfl,rfl⟩
      go_wp2_with fail
      refine HI2.out.mono ?_
      rintro e w3 ⟨rfl,rfl⟩
      have HWA:=zhd (zg8 (i:=a+1) (Row.ofOwn OKK.out (F:=fun _=>True) (fun _ _=>trivial)) (zge KA.out) (by omega) (by omega))
      rw[show((a+1:Nat):Int)=(a:Int)+1 from rfl] at HWA
      go_wp2_with fail
      refine HWA.out.mono ?_
      rintro e w3 ⟨v3,rfl,f3,o3⟩
      obtain⟨A3,k3,rfl,hA3⟩:=z0o o3
      obtain⟨g3,rfl⟩:∃g,A3=some ⟨g,0,none⟩:=by
       cases A3 with
       | none =>
         rcases o3.2 with⟨e',h0⟩|⟨g,cap,cur,e',_⟩
         · omega
         · cases e'
       |some a=>obtain⟨g,rfl⟩:=hA3 a rfl;exact⟨g,rfl⟩
      have B3:=zhd (f3.blk B1.out (fun h=>h))
      have z2:=z2i 2 B3.out
      have m2c:=z2k B3.out 2 rfl
      have F3:=zhd f3
      have O3:=zhd o3
      have hg3:=o3.lt g3 rfl
      have hs3:=f3.size
      clear f3 o3 hA3 HWA
      go_upto_region 9 with fail
      have F4:=zhd ((Fr.refl (fun b=>b=n) w3).setCell (p:=⟨n,2,none⟩) (.inr rfl) (.slice (some ⟨g3,0,none⟩) (kvs.length-1) k3))
      have B4:Hid ((w3.setCell ⟨n,2,none⟩ (.slice (some ⟨g3,0,none⟩) (kvs.length-1) k3)).heap[n]?=some (.cells #[.int .i64 0,.slice (some ⟨L0,0,none⟩) l.length lc2,.slice (some ⟨g3,0,none⟩) (kvs.length-1) k3] 198 (0,0))):=zhd (z2j (i:=2) B3.out (.slice (some ⟨g3,0,none⟩) (kvs.length-1) k3))
      generalize w3.setCell ⟨n,2,none⟩ (.slice (some ⟨g3,0,none⟩) (kvs.length-1) k3)=w4 at *
      have hs4:=F4.out.size
      have j1:=z2k B4.out 1 rfl
      have j2:=z2k B4.out 2 rfl
      have hL0n:¬L0=n:=CLV.out.2
      have hg3n:¬g3=n:=by omega
      have y0:=F4.out.cell (F3.out.cell0 z0) hL0n
      have y1:=F4.out.cell (F3.out.cell0 z1) hL0n
      have AG4:=zhd (show Ag wc.heap.size c1 (ownN c1 [g3] qn) from z8o (Ag.refl _ _) (fun b hb=>by simp at hb;omega))
      have hon:ownN c1 [g3] qn n=qn:=by rw[z8n (by simp;omega)];exact CN.out
      have HJ:=zhd (fun (w_:World) (hf:Fr C0 w4 w_)=>zh2 (x:=l[a]) hf (z8p (M.out.cl.mono (by omega)) (fun b hb=>by simp at hb;omega)) hr0 (((M.out.pair.ag AG4.out).fr0 F3.out).fr F4.out (fun b e k=>hnn (by rw[←hon,←e];exact k)) (fun b e k=>hn0 (by rw[←hon,←e];exact k))) (((zgi BK.out AG4.out).fr0 F3.out).fr F4.out (fun b h e=>hn0 (by rw[←hon,←e];exact h))) (((zgi BV.out AG4.out).fr0 F3.out).fr F4.out (fun b h e=>hn0 (by rw[←hon,←e];exact h))))
      have hlt3:a<(kvs.take (a+1)++kvs.drop (a+1+1)).length:=by simp;omega
      have O4:=zhd (z0m O3.out F4.out (fun b e h=>by simp[Value.ownBlock] at e;omega))
      have hka:(a:Int)<((kvs.length-1:Nat):Int):=by omega
      clear hon z0 z1 k1 k2 z2 m2c
      go_wp2_with fail
      refine z1z (Fr C0 w4) [16] (by kernel_rfl) ?_
      have hSw0:(Fr C0 w4) _:=(Fr.refl C0 w4).drew
      refine tk 0 hSw0 ?_
      refine tk 1 hSw0 ?_
      refine tk 2 hSw0 ?_
      refine tk 3 hSw0 ?_ (hy:=by intro w_ hS_;have e0:=hS_.cell0 j1;have e1:=hS_.cell0 j2;have e2:=hS_.cell0 y0;have e3:=hS_.cell0 y1;first|(go_simp;done)|(go_simp;with_reducible rfl))
      refine tk 4 hSw0 ?_
      refine tk 5 hSw0 ?_
      refine tk 6 hSw0 ?_
      refine tk 7 hSw0 ?_
      refine tk 8 hSw0 ?_
      refine tk 9 hSw0 ?_ (hy:=by intro w_ hS_;have e0:=hS_.cell0 j1;have e1:=hS_.cell0 j2;have e2:=hS_.cell0 y0;have e3:=hS_.cell0 y1;first|(go_simp;done)|(go_simp;with_reducible rfl))
      refine tk 10 hSw0 ?_
      refine tk 11 hSw0 ?_
      refine tk 12 hSw0 ?_ (hy:=by intro w_ hS_;have e0:=hS_.cell0 j1;have e1:=hS_.cell0 j2;have e2:=hS_.cell0 y0;have e3:=hS_.cell0 y1;first|(go_simp;done)|(go_simp;with_reducible rfl))
      refine tk 13 hSw0 ?_
      refine one_ 14 rfl (fun K hK=>?_)
      go_simp
      refine(HJ.out _ (by assumption)).mono ?_
      rintro e w5 ⟨f5,tx5,y5,rfl,R5⟩
      simp only[]
      have F5:=zhd f5
      have O5:=zhd (z0m O4.out f5 (fun _ _ h=>h))
      have q0:=O5.out.cells (g:=g3) rfl a _ (List.getElem?_eq_getElem hlt3)
      rw[add0] at q0
      obtain⟨cur,hgb5⟩:=z4y O5.out (b:=g3) rfl
      have q1:=z2i a hgb5
      clear f5 hgb5
      refine hK.out _ _ ?kS1 (fun hSw1=>?kR1)
      case kS1=>exact F5.out
      clear hK K
      try simp only[Act.put,zs1,zs2,zs3]
      refine tk 15 hSw1 ?_
      refine z1v 16 rfl (fun K hK=>?_)
      go_simp
      refine hK.out _ _ ?_;clear hK K
      try simp only[Act.put,zs1,zs2,zs3]
      refine z1y (by kernel_rfl) ?_ _
      have F6:=zhd ((Fr.refl (fun b=>b=g3) w5).setCell (p:=⟨g3,a,none⟩) (.inr rfl) (.iface tx5 y5))
      have O6:=zhd (z8l (u:=.iface tx5 y5) O5.out hlt3)
      clear q0 q1
      generalize w5.setCell ⟨g3,a,none⟩ (.iface tx5 y5)=w6 at *
      have B6:=zhd (F6.out.blk (F5.out.blk B4.out (fun h=>h)) (fun e:n=g3=>hg3n e.symm))
      have q2:=z2k B6.out 1 rfl
      have OL6:=zhd (z0m (z0m (z0m (z0m OL.out F3.out (fun _ _ h=>h)) F4.out (fun b e h=>by simp[Value.ownBlock] at e;omega)) F5.out (fun _ _ h=>h)) F6.out (fun b e h=>by simp[Value.ownBlock] at e;omega))
      have HWI:=zhd (zg7 (i:=a) (Row.ofOwn OL6.out (F:=fun _=>True) (fun _ _=>trivial)) (ItemCells.one IC.out) hal (by omega))
      clear j1 j2 y0 y1
      go_wp2_with fail
      refine HWI.out.mono ?_
      rintro e w7 ⟨v7,rfl,f7,o7⟩
      obtain⟨A7,k7,rfl,-⟩:=z0o o7
      have B7:=zhd (f7.blk B6.out (fun h=>h))
      have z7:=z2i 1 B7.out
      have q7:=z2k B7.out 1 rfl
      have F7:=zhd f7
      have O7:=zhd o7
      clear f7 o7 q2
      go_wp2_with fail
      refine bodyPost_ret (results_none rfl _ _ _) rfl ?_
      obtain⟨nj,gj,c5,ag5,cl5,hnj,hgj,hng,rj⟩:=R5.out
      have hd1:=zb6 (All2.at_ a (by omega) (by omega) KA.out)
      have hd2:=zb6 (All2.at_ (a+1) ha1 hac KA.out)
      exact⟨rfl,zh4 hq0 hn0 hnn hnq HC.out ha1 M.out HCN.out hnl OL.out IC.out OKK.out KA.out S1.out S2.out (fun j h e1 e2=>HOTH.out j h (by rcases HA.out with⟨e,_⟩|e<;>omega)) hlen HKV.out (by rw[←HM1.out,←HM2.out];exact h4) HZ.out hd1 hd2 F3.out O3.out F4.out F5.out ag5 cl5 hnj hgj hng rj F6.out O6.out F7.out O7.out ((Fr.refl (fun b=>b=n) w7).setCell (p:=⟨n,1,none⟩) (.inr rfl) _) (z2j (i:=1) B7.out _)⟩
    · have h4i:¬(m1:Int)+1+(m2:Int)≤4:=by omega
      obtain⟨m,hm⟩:∃m,m=(m1+1+m2) / 2:=⟨_,rfl⟩
      have HSH:=zhd (fun (w_:World) (hf:Fr C0 wc w_)=>zh3 (x:=l[a]) (m:=m) hf M.out.cl hr0 M.out.pair BK.out BV.out (by rw[←HM1.out,←HM2.out];omega) (fun hd=>by
       have e1:=(zgt S1.out).2.2.2.2.1 hd
       have e2:=(zgt S2.out).2.2.2.2.1 hd
       rw[List.length_append,e1.1,e2.1];omega))
      have hdv:IntKind.i64.wrap (((m1:Int)+1+(m2:Int)).tdiv 2)=(m:Int):=by
       rw[Int.tdiv_eq_ediv_of_nonneg (by omega),z0t _ (by omega) (by omega)];omega
      have HDV:=zhd hdv
      clear hdv
      have hGL:¬G=L0:=fun e=>CKV.out.2.2 (by rw[e];rfl)
      have hLG:¬L0=G:=fun e=>hGL e.symm
      have hnGL:¬(n=G∨n=L0):=fun e=>e.elim (fun e=>CKV.out.2.1 e.symm) (fun e=>CLV.out.2 e.symm)
      have g0:=OKK.out.cells (g:=G) rfl a _ (List.getElem?_eq_getElem (by omega))
      have g1:=OKK.out.cells (g:=G) rfl (a+1) _ (List.getElem?_eq_getElem hac)
      rw[add0] at g0 g1
      obtain⟨curG,hgG⟩:=z4y OKK.out (b:=G) rfl
      obtain⟨curL,hgL⟩:=z4y OL.out (b:=L0) rfl
      have GG:=zhd hgG
      have GL:=zhd hgL
      clear hgG hgL
      go_wp2_with fail
      refine HI1.out.mono ?_
      rintro e w3 ⟨rfl,rfl⟩
      go_wp2_with fail
      refine HI2.out.mono ?_
      rintro e w3 ⟨rfl,rfl⟩
      go_wp2_with fail
      refine z1z (Fr (fun b=>b=G∨b=L0) wc) [37] (by kernel_rfl) ?_
      have hSw0:(Fr (fun b=>b=G∨b=L0) wc) _:=(Fr.refl _ wc).drew
      refine tk 0 hSw0 ?_
      refine tk 1 hSw0 ?_
      refine tk 2 hSw0 ?_
      refine tk 3 hSw0 ?_ (hy:=by intro w_ hS_;have e0:=hS_.cell k1 hnGL;have e1:=hS_.cell k2 hnGL;first|(go_simp;done)|(go_simp;with_reducible rfl))
      refine tk 4 hSw0 ?_
      refine tk 5 hSw0 ?_
      refine tk 6 hSw0 ?_
      refine tk 7 hSw0 ?_
      refine tk 8 hSw0 ?_ (hy:=by intro w_ hS_;have e0:=hS_.cell k1 hnGL;have e1:=hS_.cell k2 hnGL;first|(go_simp;done)|(go_simp;with_reducible rfl))
      refine tk 9 hSw0 ?_
      refine tk 10 hSw0 ?_
      refine tk 11 hSw0 ?_
      refine tk 12 hSw0 ?_
      refine tk 13 hSw0 ?_ (hy:=by intro w_ hS_;have e0:=hS_.cell k1 hnGL;have e1:=hS_.cell k2 hnGL;first|(go_simp;done)|(go_simp;with_reducible rfl))
      refine tk 14 hSw0 ?_
      refine tk 15 hSw0 ?_
      refine tk 16 hSw0 ?_
      refine tk 17 hSw0 ?_
      refine tk 18 hSw0 ?_
      refine tk 19 hSw0 ?_
      refine tk 20 hSw0 ?_ (hy:=by intro w_ hS_;have e0:=hS_.cell k1 hnGL;have e1:=hS_.cell k2 hnGL;first|(go_simp;done)|(go_simp;with_reducible rfl))
      refine tk 21 hSw0 ?_
      refine tk 22 hSw0 ?_
      refine tk 24 hSw0 ?_
      refine tk 25 hSw0 ?_
      refine tk 26 hSw0 ?_
      refine one_ 23 rfl (fun K hK=>?_)
      go_simp
      refine hK.out _ _ ?kS2 (fun hSw1=>?kR2)
      case kS2=>assumption
      clear hK K
      try simp only[Act.put,zs1,zs2,zs3]
      refine one_ 27 rfl (fun K hK=>?_)
      go_simp
      rw[HDV.out]
      refine(HSH.out _ ((Fr.refl C0 wc).drew)).mono ?_
      rintro e w5 ⟨f5,ta,ya,kA,kn,kc5,vA,vn,vc5,tb,yb,rfl,R5⟩
      simp only[]
      have q0:=f5.cell0 g0
      have q1:=f5.cell0 g1
      have q2:=f5.cell0 z0
      have q3:=f5.cell0 z1
      have zz0:=z2i a (f5.blk GG.out (fun h=>h))
      have zz1:=z2i (a+1) (f5.blk GG.out (fun h=>h))
      have zz2:=z2i (a*2) (f5.blk GL.out (fun h=>h))
      have zz3:=z2i (a*2+1) (f5.blk GL.out (fun h=>h))
      have F5:=zhd f5
      have F5b:=zhd (f5.mono (C2:=fun b=>b=G∨b=L0) (fun _ _ h=>h.elim))
      clear f5
      refine hK.out _ _ ?kS3 (fun hSw2=>?kR3)
      case kS3=>exact F5b.out
      clear hK K
      try simp only[Act.put,zs1,zs2,zs3]
      refine tk 28 hSw2 ?_
      refine tk 29 hSw2 ?_
      refine tk 30 hSw2 ?_
      refine tk 31 hSw2 ?_
      refine tk 32 hSw2 ?_
      refine one_ 33 rfl (fun K hK=>?_)
      go_simp
      refine hK.out _ _ ?kS4 (fun hSw3=>?kR4)
      case kS4=>exact F5b.out.setCell (p:=⟨G,a,none⟩) (.inr (.inl rfl)) _
      clear hK K
      try simp only[Act.put,zs1,zs2,zs3]
      refine tk 34 hSw3 ?_
      refine one_ 35 rfl (fun K hK=>?_)
      go_simp
      refine hK.out _ _ ?kS5 (fun hSw4=>?kR5)
      case kS5=>exact((F5b.out.setCell (p:=⟨G,a,none⟩) (.inr (.inl rfl)) _).setCell (p:=⟨L0,a*2,none⟩) (.inr (.inr rfl)) _).setCell (p:=⟨L0,a*2+1,none⟩) (.inr (.inr rfl)) _
      clear hK K
      try simp only[Act.put,zs1,zs2,zs3]
      refine tk 36 hSw4 ?_
      refine z1v 37 rfl (fun K hK=>?_)
      go_simp
      refine hK.out _ _ ?_;clear hK K
      try simp only[Act.put,zs1,zs2,zs3]
      refine z1y (by kernel_rfl) ?_ _
      go_wp2_with fail
      refine bodyPost_end (results_none rfl _ _ _) rfl ?_
      obtain⟨c5,sh⟩:=R5.out
      have HMM:1+sumN (ks[a].ks.map (dirtyN d))+sumN (ks[a+1].ks.map (dirtyN d))≤dirtyN (d+1) ks[a]+dirtyN (d+1) ks[a+1]:=by
       have hd1:=zb6 (All2.at_ a (by omega) (by omega) KA.out)
       have hd2:=zb6 (All2.at_ (a+1) ha1 hac KA.out)
       rcases HA.out with⟨e,_⟩|e
       · subst e
         have:=zgr (d:=d) (t:=ks[i]) ⟨ni,gi,oi,by rw[HKI.out];rfl⟩
         omega
       · subst e
         have:=zgr (d:=d) (t:=ks[a+1]) ⟨ni,gi,oi,by rw[HKI.out];rfl⟩
         omega
      refine⟨rfl,zh5 hq0 hn0 hnn hnq HC.out ha1 M.out HCN.out hnl B1.out OL.out IC.out OKK.out KA.out CLV.out ⟨CKV.out.1,CKV.out.2.1,hGL⟩ S1.out S2.out (fun j h e1 e2=>HOTH.out j h (by rcases HA.out with⟨e,_⟩|e<;>omega)) hlen HKV.out (m:=m) (by omega) (by rw[←HM1.out,←HM2.out];omega) (by rw[←HM1.out,←HM2.out];omega) HZ.out HMM (Fr.refl C0 wc) F5.out sh ((((Fr.refl (fun b=>b=G∨b=L0) w5).setCell (p:=⟨G,a,none⟩) (.inr (.inl rfl)) _).setCell (p:=⟨L0,a*2,none⟩) (.inr (.inr rfl)) _).setCell (p:=⟨L0,a*2+1,none⟩) (.inr (.inr rfl)) _ |>.setCell (p:=⟨G,a+1,none⟩) (.inr (.inl rfl)) _) ?_ ?_⟩
      · have o1:=z8l (u:=.iface ta ya) (j:=a) (z0m OKK.out F5.out (fun _ _ h=>h)) (by omega)
        have o2:=z0m o1 (((Fr.refl (fun b=>b=L0) _).setCell (p:=⟨L0,a*2,none⟩) (.inr rfl) (.slice kA kn kc5)).setCell (p:=⟨L0,a*2+1,none⟩) (.inr rfl) (.slice vA vn vc5)) (fun b e h=>by simp[Value.ownBlock] at e;omega)
        exact z8l (u:=.iface tb yb) (j:=a+1) o2 (by simp;omega)
      · have o1:=z0m (z0m OL.out F5.out (fun _ _ h=>h)) ((Fr.refl (fun b=>b=G) _).setCell (p:=⟨G,a,none⟩) (.inr rfl) (.iface ta ya)) (fun b e h=>by simp[Value.ownBlock] at e;omega)
        have o2:=z8l (u:=.slice vA vn vc5) (j:=a*2+1) (z8l (u:=.slice kA kn kc5) (j:=a*2) o1 (by omega)) (by simp;omega)
        exact z0m o2 ((Fr.refl (fun b=>b=G) _).setCell (p:=⟨G,a+1,none⟩) (.inr rfl) (.iface tb yb)) (fun b e h=>by simp[Value.ownBlock] at e;omega)
end
section
set_option maxHeartbeats 2000000
theorem zh7 {c:Nat→Nat} {r rn q:Nat} {w:World} {tp st wp:Nat} {S:SSt} {D:DSt} {d m:Nat} {t:T} {v:Value} {gone:List Nat} (hq0:q≠0) (hqr:q≠r) (hqn:q≠rn) (h:Hd c r w tp st S D) (hc:Cl w c) (hw:WorkAt c q w wp tp gone) (hr:Rep c rn w (pgs D) D.blocks False (d+1) t v) (hs:Shape (d+1) m t) (hm:1≤m) (hgl:gone.length≤1000000) (hd0:¬d=0) :
 Calls Tryz.prog 160 #[.pointer (some ⟨wp,0,none⟩),v] w fun e w'=>Fr (fun b=>c b=q) w w'∧∃n,e=.returned (wInner n)∧w.heap.size≤n∧∃qn c',qn≠0∧qn≠q∧qn≠r∧qn≠rn∧(∀b,c b≠qn)∧Ag w.heap.size c c'∧Cl w' c'∧WorkAt c' q w' wp tp (gone++goneOf t)∧InnerOpen c' qn rn w' (pgs D) D.blocks d n t.l t.ks:=by
 refine(z8i hq0 hqr hqn h hc hw hr hs hm hgl).mono ?_
 rintro e w' ⟨f,v',n,lv,kv,xs,kvs,c1,rfl,⟨o1,hp⟩,hks,hxl,hcells,hn,hcn,hlo,hko,hln,ha1,hcl1,hw1⟩
 rcases hp with⟨hd,_⟩|⟨_,rfl,hb,ok⟩
 · exact absurd hd hd0
 have hol:xs.length / 2=t.l.length:=by omega
 rw[hol] at o1
 obtain⟨qn,hf,hqn0,hav⟩:=zev hcl1 [q,r,rn]
 have hnl:=(Array.getElem?_eq_some_iff.1 hb).1
 obtain⟨c2,hin,hout⟩:∃c2:Nat→Nat,(∀b,(b=n∨lv.ownBlock=some b∨kv.ownBlock=some b)→c2 b=qn)∧(∀b,¬(b=n∨lv.ownBlock=some b∨kv.ownBlock=some b)→c2 b=c1 b):=by
  classical
  exact⟨fun b=>if b=n∨lv.ownBlock=some b∨kv.ownBlock=some b then qn else c1 b,fun b h=>if_pos h,fun b h=>if_neg h⟩
 have hz:∀b,(b=n∨lv.ownBlock=some b∨kv.ownBlock=some b)→c1 b=0∧w.heap.size≤b∧b<w'.heap.size:=fun b h=>by
  rcases h with rfl|h|h
  · exact⟨hcn,hn,hnl⟩
  · exact⟨(hlo b h).2,(hlo b h).1,(o1.lt b h).2⟩
  · exact⟨(hko b h).2.1,(hko b h).1,(ok.lt b h).2⟩
 have hag:Ag w.heap.size c c2:=fun b hb=>by rw[hout b (fun h=>by have:=(hz b h).2.1;omega)];exact ha1 b hb
 refine⟨f,n,rfl,hn,qn,c2,hqn0,hav q (by simp),hav r (by simp),hav rn (by simp),fun b e=>?_,hag,fun b hb=>?_,?_,⟨lv,kv,xs,kvs,hb,o1,hcells.mono (fun b h _=>?_),ok,hks.imp fun _ _ h=>?_,hin n (.inl rfl),fun b e=>⟨hin b (.inr (.inl e)),fun k=>hln (k▸e)⟩,fun b e=>⟨hin b (.inr (.inr e)),(hko b e).2.2.1,(hko b e).2.2.2⟩⟩⟩
 · by_cases hl:b<w.heap.size
   · exact hf b ((ha1 b hl).trans e)
   · exact hqn0 (e.symm.trans (hc b (by omega)))
 · rw[hout b (fun h=>by have:=(hz b h).2.2;omega)];exact hcl1 b hb
 · obtain⟨gv,x1,x2,x3,x4⟩:=hw1
   exact⟨gv,x1,x2,by rw[hout _ (fun h=>hq0 (x3.symm.trans (hz _ h).1))];exact x3,fun b e=>by rw[hout _ (fun h=>hq0 ((x4 b e).symm.trans (hz _ h).1))];exact x4 b e⟩
 · show c2 b=0
   rw[hout b (fun k=>k.elim h.2.1 (fun k=>k.elim h.2.2.1 h.2.2.2))];exact h.1
 · have hx:∀b,c b=q→c2 b=q:=fun b e=>by
    by_cases hl:b<w.heap.size
    · exact(hag b hl).trans e
    · exact absurd ((hc b (by omega)).symm.trans e) (fun k=>hq0 k.symm)
   exact Rep.fr f (fun b e k=>hqn ((hx b e).symm.trans k)) (fun b e k=>hq0 ((hx b e).symm.trans k)) (Rep.ag hag h)
end
end Go.Proofs.YtidalepbkljkpaaGreat
