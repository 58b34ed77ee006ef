import Derived.Test.YtcmicdcikechkaaGreatPlays33
import Derived.Test.YtcmicdcikechkaaGreatPlays36
import Derived.Test.YtcmicdcikechkaaGreatPlays32
import Derived.Test.YtcmicdcikechkaaGreatPlays18
import Derived.Test.YtcmicdcikechkaaGreatPlays30
set_option linter.all false
set_option autoImplicit true
set_option relaxedAutoImplicit true
namespace Go.Proofs.YtcmicdcikechkaaGreat
open Go.RowKit Go.H
set_option maxHeartbeats 2000000
set_option maxRecDepth 100000
section
def TSt.opened (D:DSt) (num dk:Nat) (o:Root) (live held:List Nat):TSt:={ S:=⟨D.blocks-2,ones held,D.life,num,rootId o,dk⟩,D:=D,now:=o,last:=o,gone:=[],live:=live,held:=held }
theorem Rep.ids {c:Nat→Nat} {rn:Nat} {w:World} {pg:Nat→Option Bs} {N:Nat} {X:Prop} {id:Nat}:∀{d:Nat} {t:T} {v:Value},t.isPage→Rep c rn w pg N X d t v→0<cnt d (.pg id) t→2≤id∧id<N
 |0,_,_,_,h,_=>h.elim
 | d + 1, .node (.page i) l ks, v, _, h, hc => by
   obtain⟨_,a,b,_,k⟩:=h
   by_cases e:id=i
   · rw[e];exact⟨a,b⟩
   · have hz:0<sumN (ks.map (cnt d (.pg id))):=by
      simp only[cnt,Nm.cnt] at hc
      rw[if_neg (by intro h;injection h with h;exact e h)] at hc
      omega
     obtain⟨j,hj,h2⟩:=zeg.1 hz
     simp at hj h2
     exact Rep.ids (k _ (List.getElem_mem hj)).1 (k _ (List.getElem_mem hj)).2 h2
 |d+1,.node (.mem n g o) l ks,v,hp,_,_=>hp.elim
theorem Rep.said {c:Nat→Nat} {rn:Nat} {w:World} {pg:Nat→Option Bs} {N:Nat} {X:Prop}:∀{d:Nat} {t:T} {v:Value},t.isPage→(∀id,0<cnt d (.pg id) t→pg id≠none)→Rep c rn w pg N X d t v→Rep c rn w pg N False d t v
 |0,_,_,_,_,h=>h.elim
 | d + 1, .node (.page i) l ks, v, _, hs, h => by
   obtain⟨a,b,e,f,k⟩:=h
   refine⟨a,b,e,f.imp id (fun h=>absurd h.2 (hs i (by simp only[cnt,Nm.cnt,if_true];omega))),fun x hx=>⟨(k x hx).1,Rep.said (k x hx).1 (fun id hid=>hs id ?_) (k x hx).2⟩⟩
   have:=z73 (List.mem_map_of_mem (f:=cnt d (.pg id)) hx)
   simp only[cnt];omega
 |d+1,.node (.mem n g o) l ks,v,hp,_,_=>hp.elim
theorem zg9 {c:Nat→Nat} {rn:Nat} {w:World} {D:DSt} {X:Prop} {num dk dd:Nat} {t:T} {seen K:List Nat} (hrt:Rep c rn w (pgs D) D.blocks X dd t (wPage t.id)) (hpg:t.isPage) (hso:Sorted (flat dd t)) (hone:∀id,cnt dd (.pg id) t≤1) (hln:(flat dd t).length≤90000) (hb1:3≤D.blocks) (hop:D.opn=[]) (hok:DOk D) (hnum:num≤1000000) (hf:HeadsOk D.read num t.id)
 (hs:seen.Nodup) (hk:K.Nodup) (hks:∀x,x∈K↔x∈seen) (hse:∀x,x∈seen↔0<cnt dd (.pg x) t):Books (TSt.opened D num dk (some (dd,t)) seen K):=by
 have hb:∀id,cnt dd (.pg id) t=if id∈seen then 1 else 0:=fun id=>by
  have:=hone id
  split
  · rename_i h;have:=(hse id).1 h;omega
  · rename_i h
    by_cases h0:0<cnt dd (.pg id) t
    · exact absurd ((hse id).2 h0) h
    · omega
 refine⟨rfl,hk,hs,fun x=>by show x∈K↔x∈seen∨x∈[]∨x∈[];rw[hks x];simp,fun x hx=>?_,fun id=>?_,hb,fun b j=>?_,hpg,?_,hop,hok,hso,hso,hnum,hln,hln,hf,KeptB.nil _⟩
 · have:=Rep.ids hpg hrt ((hse x).1 ((hks x).1 hx))
   show 2≤x∧x<D.blocks-2+2
   omega
 · show cnt dd (.pg id) t+0=_
   rw[hb id];rfl
 · show cnt dd (.cl b j) t≤1
   rw[ze1 hpg hrt];omega
 · show dirtyN dd t≤_
   rw[zcb hpg];omega
theorem zga (e l:Nat) (w:World) (he:w.cell? ⟨e,0,none⟩=some (.int .i64 0)):
 CallsD Tryz.prog 61 #[.pointer (some ⟨e,0,none⟩),.pointer (some ⟨l,0,none⟩)] u w fun e u' w'=>u'=u∧e=.returned (.tuple #[])∧w'=w:=by
 go_enter_d Tryz.func61,Tryz.ntmps61
 go_wp2
 go_end0
 exact⟨rfl,rfl⟩
theorem zgb (e l:Nat) (x:Int) (v:Value) (w:World) (hx:(x != 0)=true) (he:w.cell? ⟨e,0,none⟩=some (.int .i64 x)) (hl:w.cell? ⟨l,0,none⟩=some v) (hz:w.frozen? ⟨l,0,none⟩=false):
 CallsD Tryz.prog 61 #[.pointer (some ⟨e,0,none⟩),.pointer (some ⟨l,0,none⟩)] u w fun e u' w'=>u'=u∧e=.returned (.tuple #[])∧w'=w.setCell ⟨l,0,none⟩ (.pointer none):=by
 go_enter_d Tryz.func61,Tryz.ntmps61
 go_wp2
 go_end0
 exact⟨rfl,rfl⟩
theorem zgc {r rn rm:Nat} {d m num dd:Nat} (ho:Owners r rn rm) (h:DiskA (Dt c) w d m ov D) (hod:c d=r) (hom:c m=r) (hoov:∀b,ov.ownBlock=some b→c b=r) (hc:Cl w c) (hdn:D.down=false) (hb1:3≤D.blocks) (hb2:D.blocks≤4096) (hbl:∀k,(D.read k).length=8192) (hop:D.opn=[]) (hok:DOk D) (hnum:num≤1000000) (hh:HeadsOk D.read num t.id) (hrt:Rep c rn w (pgs D) D.blocks X dd t (wPage t.id)) (hsh:Shape dd 1 t) (hpg:t.isPage) (hso:Sorted (flat dd t)) (hone:∀id,cnt dd (.pg id) t≤1) (hln:(flat dd t).length≤90000):
 Calls Tryz.prog 28 #[.pointer (some ⟨d,0,none⟩)] w fun e w'=>Fr (fun b=>c b=r) w w'∧((X∧e=.returned (.tuple #[.pointer none,.int .i64 22]))∨∃tp c' live held,e=.returned (.tuple #[.pointer (some ⟨tp,0,none⟩),.int .i64 0])∧Ag w.heap.size c c'∧w.heap.size≤tp∧(∀x,0<cnt dd (.pg x) t→pgs D x≠none)∧TreeAt c' r rn rm w' tp (TSt.opened D num d (some (dd,t)) live held) 0):=by
 have hid:2≤t.id∧t.id<D.blocks:=by
  cases dd with
  |zero=>exact hrt.elim
  | succ dd =>
    obtain⟨nm,l,ks⟩:=t
    cases nm with
    |page id=>exact⟨hrt.2.1,hrt.2.2.1⟩
    |mem=>exact hpg.elim
 have hf:openF (headsOf D)=some (num,t.id):=zdg hh (by omega) (by omega) (by omega) (by omega)
 have HRT:=zhd hrt
 have HID:=zhd hid
 have HSH:=zhd hsh
 have HPG:=zhd hpg
 have HSO:=zhd hso
 have HONE:=zhd hone
 have HLN:=zhd hln
 have HHC:=zhd hc
 have HFO:=zhd hh
 clear hrt hsh hpg hso hone hln hid
 have hdl:d<w.heap.size:=(Array.getElem?_eq_some_iff.1 h.blk).1
 have hml:m<w.heap.size:=by obtain⟨M,k1,_⟩:=h.kept;exact k1.lt
 have hol:∀b,ov.ownBlock=some b→b<w.heap.size:=fun b hb=>by obtain⟨xs,o,_⟩:=h.opn;exact(o.lt b hb).2
 obtain⟨q3,hq0,hqr,hqn,hqm⟩:∃q3,q3≠0∧q3≠r∧q3≠rn∧q3≠rm:=⟨r+rn+rm+1,by omega,by omega,by omega,by omega⟩
 obtain⟨c1,hce,hce2,hag1,hcl1⟩:∃c1:Nat→Nat,c1 w.heap.size=q3∧c1 (w.heap.size+1)=q3∧Ag w.heap.size c c1∧∀b,w.heap.size+2≤b→c1 b=0:=by
  refine⟨fun b=>if b=w.heap.size∨b=w.heap.size+1 then q3 else c b,by simp,by simp,fun b hb=>?_,fun b hb=>?_⟩
  · simp only[];rw[if_neg (by omega)]
  · simp only[];rw[if_neg (by omega)];exact hc b (by omega)
 have HO:=zhd (fun (w_:World) (hf_:Fr C0 w w_) (hs_:w.heap.size+2≤w_.heap.size)=>zen (c:=c1) (r:=r) ((DiskAt.mono h fun b hb hl=>(hag1 b hl).trans hb).fr0 hf_) ((hag1 d hdl).trans hod) ((hag1 m hml).trans hom) (fun b hb=>(hag1 b (hol b hb)).trans (hoov b hb)) ho.r0 (fun b hb=>hcl1 b (by omega)) hdn hb1 hb2 hbl)
 rw[hf] at HO
 have HFO:=zhd hh
 have F0:=zhd (((Fr.refl C0 w).alloc (.cells #[.pointer none] 24)).alloc (.cells #[.int .i64 0] 28))
 have HB:=zhd (And.intro hb1 hb2)
 clear h hod hom hoov hbl hf hh
 go_enter_defers Tryz.func28,Tryz.ntmps28
 go_wp2_with fail
 refine(HO.out _ F0.out (by simp)).mono ?_
 rintro e w2 ⟨f2,st,rfl,c2,ag2,cl2,s2⟩
 have F2:=zhd f2
 have hbt:w2.heap[w.heap.size]?=some (.cells #[.pointer none] 24 (0,0)):=f2.blk (((Fr.refl C0 _).alloc _).blk (heap_alloc_new w _) (fun h=>h)) (fun h=>h)
 have hbe:w2.heap[w.heap.size+1]?=some (.cells #[.int .i64 0] 28 (0,0)):=f2.blk (by
  have:=heap_alloc_new (w.alloc (.cells #[.pointer none] 24)) (.cells #[.int .i64 0] 28)
  rwa [show(w.alloc (.cells #[.pointer none] 24)).heap.size=w.heap.size+1 by simp] at this) (fun h=>h)
 have t0:=z2g hbt 0 rfl
 have e0:=z2g hbe 0 rfl
 have zt:=z2e 0 hbt
 have ze:=z2e 0 hbe
 have hs2:=f2.size
 have hsz:((w.alloc (.cells #[.pointer none] 24)).alloc (.cells #[.int .i64 0] 28)).heap.size=w.heap.size+2:=by simp
 clear f2 HO
 go_upto_region 4 with fail
 have F3':=(Fr.refl (fun b=>b=w.heap.size+1) w2).setCell (p:=⟨w.heap.size+1,0,none⟩) (.inr rfl) (.int .i64 0)
 have hbt3:=F3'.blk hbt (by omega)
 have hbe3:=z2f (i:=0) hbe (.int .i64 0)
 have F3:=zhd F3'
 have hs3:=F3'.size
 clear F3' hbt hbe t0 e0 zt ze
 generalize w2.setCell ⟨w.heap.size+1,0,none⟩ (.int .i64 0)=w3 at *
 have g4:=((Fr.refl C0 w3).alloc (.map #[] 0)).alloc (.map #[] 0)
 have g5:=g4.alloc (.cells #[.pointer (some ⟨st,0,none⟩),.nilIface,.int .i64 0,.int .i64 0,.nilIface,.int .i64 0,.int .i64 0,.map (some w3.heap.size),.slice none 0 0,.slice none 0 0,.map (some (w3.heap.size+1))] 77)
 have hbt4:=g5.blk hbt3 (fun h=>h)
 have hbe4:=g5.blk hbe3 (fun h=>h)
 have t0:=z2g hbt4 0 rfl
 have zt:=z2e 0 hbt4
 have e0:=z2g hbe4 0 rfl
 have ze:=z2e 0 hbe4
 have G5:=zhd g5
 have HBT3:=zhd hbt3
 have HBE3:=zhd hbe3
 clear g4 g5 hbt3 hbe3 hbt4 hbe4
 go_upto_region 5 with fail
 have gs:=(Fr.refl (fun b=>b=w.heap.size) (((w3.alloc (.map #[] 0)).alloc (.map #[] 0)).alloc (.cells #[.pointer (some ⟨st,0,none⟩),.nilIface,.int .i64 0,.int .i64 0,.nilIface,.int .i64 0,.int .i64 0,.map (some w3.heap.size),.slice none 0 0,.slice none 0 0,.map (some (w3.heap.size+1))] 77))).setCell (p:=⟨w.heap.size,0,none⟩) (.inr rfl) (.pointer (some ⟨w3.heap.size+1+1,0,none⟩))
 have hT:=gs.blk (heap_alloc_new ((w3.alloc (.map #[] 0)).alloc (.map #[] 0)) (.cells #[.pointer (some ⟨st,0,none⟩),.nilIface,.int .i64 0,.int .i64 0,.nilIface,.int .i64 0,.int .i64 0,.map (some w3.heap.size),.slice none 0 0,.slice none 0 0,.map (some (w3.heap.size+1))] 77)) (by simp;omega)
 rw[show((w3.alloc (.map #[] 0)).alloc (.map #[] 0)).heap.size=w3.heap.size+2 by simp] at hT
 have hM1:=(((MapIs.made w3).fr ((Fr.refl C0 _).alloc (.map #[] 0)) (fun h=>h)).fr ((Fr.refl C0 _).alloc (.cells #[.pointer (some ⟨st,0,none⟩),.nilIface,.int .i64 0,.int .i64 0,.nilIface,.int .i64 0,.int .i64 0,.map (some w3.heap.size),.slice none 0 0,.slice none 0 0,.map (some (w3.heap.size+1))] 77)) (fun h=>h)).fr gs (by omega)
 have hM2:=((MapIs.made (w3.alloc (.map #[] 0))).fr ((Fr.refl C0 _).alloc (.cells #[.pointer (some ⟨st,0,none⟩),.nilIface,.int .i64 0,.int .i64 0,.nilIface,.int .i64 0,.int .i64 0,.map (some w3.heap.size),.slice none 0 0,.slice none 0 0,.map (some (w3.heap.size+1))] 77)) (fun h=>h)).fr gs (by simp;omega)
 rw[show(w3.alloc (.map #[] 0)).heap.size=w3.heap.size+1 by simp] at hM2
 have hbt5:=z2f (i:=0) (G5.out.blk HBT3.out (fun h=>h)) (.pointer (some ⟨w3.heap.size+1+1,0,none⟩))
 have hbe5:=gs.blk (G5.out.blk HBE3.out (fun h=>h)) (by omega)
 have F5:=zhd ((G5.out.mono (C2:=fun b=>b=w.heap.size) (fun _ _ h=>h.elim)).trans gs (fun _ _ h=>h))
 have hs5:=F5.out.size
 have hT5:=(Array.getElem?_eq_some_iff.1 hT).1
 clear gs G5 t0 zt e0 ze
 generalize ((((w3.alloc (.map #[] 0)).alloc (.map #[] 0)).alloc (.cells #[.pointer (some ⟨st,0,none⟩),.nilIface,.int .i64 0,.int .i64 0,.nilIface,.int .i64 0,.int .i64 0,.map (some w3.heap.size),.slice none 0 0,.slice none 0 0,.map (some (w3.heap.size+1))] 77)).setCell ⟨w.heap.size,0,none⟩ (.pointer (some ⟨w3.heap.size+1+1,0,none⟩)))=w5 at *
 have t0:=z2g hbt5 0 rfl
 have zt:=z2e 0 hbt5
 have e0:=z2g hbe5 0 rfl
 have ze:=z2e 0 hbe5
 have F25:=zhd ((F3.out.mono (C2:=fun b=>b=w.heap.size∨b=w.heap.size+1) (fun _ _ h=>.inr h)).trans F5.out (fun _ _ h=>.inl h))
 have hc2e:∀b,(b=w.heap.size∨b=w.heap.size+1)→c2 b=q3:=fun b hb=>by
  rw[ag2 b (by omega)]
  rcases hb with rfl|rfl
  · exact hce
  · exact hce2
 have S5:=zhd (s2.fr F25.out (fun b hb e=>hqr ((hc2e b hb).symm.trans e)) (fun b hb e=>hq0 ((hc2e b hb).symm.trans e)))
 have HR5:Hid (Calls Tryz.prog 60 #[.pointer (some ⟨st,0,none⟩)] w5 fun e w'=>e=.returned (.int .i64 (t.id:Int))∧w5=w'):=zhd (by
  obtain⟨sm,d0,m0,ov0,hs⟩:=S5.out
  exact z4x hs)
 have HTB:=zhd hT
 have HM1:=zhd hM1
 have HM2:=zhd hM2
 have HBE5:=zhd hbe5
 have HBT5:=zhd hbt5
 have hnz:¬(t.id:Int)=0:=by have:=HID.out.1;omega
 have HRF:Hid (∀w_,Fr C0 w5 w_→Calls Tryz.prog 60 #[.pointer (some ⟨st,0,none⟩)] w_ fun e w'=>e=.returned (.int .i64 (t.id:Int))∧w_=w'):=zhd (fun w_ hf_=>by
  obtain⟨sm,d0,m0,ov0,hs⟩:=S5.out
  exact z4x (hs.fr0 hf_))
 have TB1:=z2g hT 1 rfl
 have ZB1:=z2e 1 hT
 clear hT hM1 hM2 hbt5 hbe5
 go_wp2_with fail
 refine HR5.out.mono ?_
 rintro e w6 ⟨rfl,rfl⟩
 generalize hid:(t.id:Int)=tid at *
 go_wp2_with fail
 have hnt:¬w3.heap.size+1+1=w.heap.size:=by omega
 have hnt1:¬w3.heap.size+1+1=w.heap.size+1:=by omega
 refine zg8 [2,3] ?_
 refine z1r (Fr C0 w5) [7] (by kernel_rfl) ?_
 have hSw0:(Fr C0 w5) _:=(Fr.refl _ w5).drew
 refine tk 0 hSw0 ?_ (hy:=by intro w_ hS_;have b0:=hS_.cell0 t0;first|(go_simp;done)|(go_simp;with_reducible rfl)) (hQ:=zg7 rfl)
 refine tk 1 hSw0 ?_ (hQ:=zg7 rfl)
 refine one_ 2 rfl (fun K hK=>?_)
 go_simp
 refine(HRF.out _ ((Fr.refl C0 w5).drew)).mono ?_
 rintro e w7 ⟨rfl,rfl⟩
 simp only[]
 refine hK.out _ _ ?kS1 (fun hSw1=>?kR1)
 case kS1=>exact(Fr.refl _ w5).drew
 clear hK K
 try simp only[Act.put,zs1,zs2,zs3]
 refine tk 3 hSw1 ?_ (hQ:=zg7 rfl)
 refine tk 4 hSw1 ?_ (hQ:=zg7 rfl)
 refine tk 5 hSw1 ?_ (hQ:=zg7 rfl)
 refine tk 6 hSw1 ?_ (hQ:=zg7 rfl)
 refine z1o 7 rfl (fun K hK=>?_)
 go_simp
 refine hK.out _ _ ?_;clear hK K
 try simp only[Act.put,zs1,zs2,zs3]
 refine z1q (by kernel_rfl) ?_ _
 simp only[Qp]
 clear HRF HR5
 have g6:=((Fr.refl (fun b=>b=w3.heap.size+1+1) w5).setCell (p:=⟨w3.heap.size+1+1,1,none⟩) (.inr rfl) (.iface 3 (.int .i64 tid))).drew
 have hT6:(w5.setCell ⟨w3.heap.size+1+1,1,none⟩ (.iface 3 (.int .i64 tid))).drew.heap[w3.heap.size+1+1]?=_:=z2f (i:=1) HTB.out (.iface 3 (.int .i64 tid))
 have hbt6:=g6.blk HBT5.out (fun e=>hnt e.symm)
 have hbe6:=g6.blk HBE5.out (fun e=>hnt1 e.symm)
 have HM16:=zhd (HM1.out.fr g6 (by omega))
 have HM26:=zhd (HM2.out.fr g6 (by omega))
 have S6:=zhd (S5.out)
 have G6:=zhd g6
 have hs6:=g6.size
 clear g6 t0 zt e0 ze TB1 ZB1
 generalize (w5.setCell ⟨w3.heap.size+1+1,1,none⟩ (.iface 3 (.int .i64 tid))).drew=w6 at *
 have t0:=z2g hbt6 0 rfl
 have T1:=z2g hT6 1 rfl
 have T3:=z2g hT6 7 rfl
 have HT6:=zhd hT6
 have HBT6:=zhd hbt6
 have HBE6:=zhd hbe6
 clear hT6 hbt6 hbe6
 go_wp2_with fail
 have FWa:=(Fr.refl C0 w6).alloc (.cells #[.pointer (some ⟨w3.heap.size+1+1,0,none⟩),.map (some w3.heap.size)] 115)
 have hwb:=heap_alloc_new w6 (.cells #[.pointer (some ⟨w3.heap.size+1+1,0,none⟩),.map (some w3.heap.size)] 115)
 have hsW:(w6.alloc (.cells #[.pointer (some ⟨w3.heap.size+1+1,0,none⟩),.map (some w3.heap.size)] 115)).drew.heap.size=w6.heap.size+1:=by simp[go_sem]
 have FW:=zhd FWa.drew
 clear FWa
 have F26:=zhd (F25.out.trans G6.out (fun b hb e=>by omega))
 obtain⟨c7,hc71,hc72,hc73,hag7,hcl7⟩:∃c':Nat→Nat,c' w3.heap.size=rm∧c' (w3.heap.size+1)=rm∧c' (w3.heap.size+1+1)=r∧Ag w2.heap.size c2 c'∧∀b,w3.heap.size+3≤b→c' b=0:=by
  refine⟨fun b=>if b=w3.heap.size∨b=w3.heap.size+1 then rm else if b=w3.heap.size+2 then r else c2 b,by simp,by simp,?_,fun b hb=>?_,fun b hb=>?_⟩
  · simp only[];rw[if_neg (by omega)];simp
  · simp only[];rw[if_neg (by omega),if_neg (by omega)]
  · simp only[];rw[if_neg (by omega),if_neg (by omega)];exact cl2 b (by omega)
 have hce7:∀b,(b=w.heap.size∨b=w.heap.size+1)→c7 b=q3:=fun b hb=>(hag7 b (by omega)).trans (hc2e b hb)
 have HAL:Hid (Alive ⟨D.blocks-2,[],D.life,num,t.id,d⟩ D):=zhd ⟨hdn,rfl,by show D.blocks=D.blocks-2+2;have:=HB.out.1;omega,by show D.blocks-2≤_;have:=HB.out.2;omega⟩
 have HSt:Hid (∀w_,Fr (fun b=>b=w.heap.size∨b=w.heap.size+1) w2 w_→StoreOk c7 r w_ st ⟨D.blocks-2,[],D.life,num,t.id,d⟩ D):=zhd fun w_ hf=>(s2.ag hag7).fr hf (fun b hb e=>hqr ((hce7 b hb).symm.trans e)) (fun b hb e=>hq0 ((hce7 b hb).symm.trans e))
 have HWI:Hid (WalkIn c7 r rn (w6.alloc (.cells #[.pointer (some ⟨w3.heap.size+1+1,0,none⟩),.map (some w3.heap.size)] 115)).drew (w3.heap.size+1+1) st w6.heap.size w3.heap.size ⟨D.blocks-2,[],D.life,num,t.id,d⟩ D []):=
  zhd ⟨⟨FW.out.cell0 (z2g HT6.out 0 rfl),HSt.out _ (F26.out.trans0 FW.out),HAL.out,hc73⟩,fun b hb=>hcl7 b (by omega),hwb,HM16.out.fr FW.out (fun h=>h),by rw[hc71];exact ho.m0,by rw[hc71];exact ho.mr,by rw[hc71];exact fun e=>ho.nm e.symm⟩
 have HWK:Hid (Calls Tryz.prog 54 #[.pointer (some ⟨w6.heap.size,0,none⟩),.iface 3 (.int .i64 tid),.bool true,.slice none 0 0,.slice none 0 0] (w6.alloc (.cells #[.pointer (some ⟨w3.heap.size+1+1,0,none⟩),.map (some w3.heap.size)] 115)).drew (WalkResS rn (pgs D) (w6.alloc (.cells #[.pointer (some ⟨w3.heap.size+1+1,0,none⟩),.map (some w3.heap.size)] 115)).drew w3.heap.size X dd t [])):=zhd (by
  rw[←hid]
  exact zej dd _ 1 t (wPage t.id) (.slice none 0 0) (.slice none 0 0) true [] [] [] HWI.out (Rep.pageW HPG.out HRT.out) HSH.out (Nat.le_refl _) (.inl rfl) HSO.out ⟨fun _ _=>.inl rfl,fun _ _=>.inl rfl⟩ (.inl ⟨rfl,rfl⟩) (.inl ⟨rfl,rfl⟩) (fun _ _=>by simp) HONE.out (by have:=HLN.out;omega))
 have hnS:∀b,b<w3.heap.size→¬(b=w3.heap.size∨b=w3.heap.size+1+1):=fun b h=>by omega
 have hnL:∀b,b<w3.heap.size∨b=w3.heap.size+1+1→¬b=w3.heap.size:=fun b h=>by omega
 clear hwb
 refine zg8 [2,3] ?_
 refine z1r ((fun w_=>Fr (fun b=>b=w3.heap.size∨b=w3.heap.size+1+1) w6 w_∧w_.cell? ⟨w3.heap.size+1+1,1,none⟩=some (.iface 3 (.int .i64 tid))∧w_.cell? ⟨w3.heap.size+1+1,7,none⟩=some (.map (some w3.heap.size)))) [25] (by kernel_rfl) ?_
 have hSw0:((fun w_=>Fr (fun b=>b=w3.heap.size∨b=w3.heap.size+1+1) w6 w_∧w_.cell? ⟨w3.heap.size+1+1,1,none⟩=some (.iface 3 (.int .i64 tid))∧w_.cell? ⟨w3.heap.size+1+1,7,none⟩=some (.map (some w3.heap.size)))) _:=⟨(Fr.refl _ w6).drew,T1,T3⟩
 refine tk 0 hSw0 ?_ (hy:=by intro w_ hS_;have b0:=hS_.1.cell t0 (hnS w.heap.size (by omega));have b1:=hS_.2.1;have b3:=hS_.2.2;first|(go_simp;done)|(go_simp;with_reducible rfl)) (hQ:=zg7 rfl)
 refine tk 1 hSw0 ?_ (hy:=by intro w_ hS_;have b0:=hS_.1.cell t0 (hnS w.heap.size (by omega));have b1:=hS_.2.1;have b3:=hS_.2.2;first|(go_simp;done)|(go_simp;with_reducible rfl)) (hQ:=zg7 rfl)
 refine tk 2 hSw0 ?_ (hy:=by intro w_ hS_;have b0:=hS_.1.cell t0 (hnS w.heap.size (by omega));have b1:=hS_.2.1;have b3:=hS_.2.2;first|(go_simp;done)|(go_simp;with_reducible rfl)) (hQ:=zg7 rfl)
 refine tk 3 hSw0 ?_ (hy:=by intro w_ hS_;have b0:=hS_.1.cell t0 (hnS w.heap.size (by omega));have b1:=hS_.2.1;have b3:=hS_.2.2;first|(go_simp;done)|(go_simp;with_reducible rfl)) (hQ:=zg7 rfl)
 refine tk 4 hSw0 ?_ (hQ:=zg7 rfl)
 refine tk 5 hSw0 ?_ (hQ:=zg7 rfl)
 refine tk 6 hSw0 ?_ (hy:=by intro w_ hS_;have b0:=hS_.1.cell t0 (hnS w.heap.size (by omega));have b1:=hS_.2.1;have b3:=hS_.2.2;first|(go_simp;done)|(go_simp;with_reducible rfl)) (hQ:=zg7 rfl)
 refine tk 7 hSw0 ?_ (hQ:=zg7 rfl)
 refine tk 9 hSw0 ?_ (hy:=by intro w_ hS_;have b0:=hS_.1.cell t0 (hnS w.heap.size (by omega));have b1:=hS_.2.1;have b3:=hS_.2.2;first|(go_simp;done)|(go_simp;with_reducible rfl)) (hQ:=zg7 rfl)
 refine tk 10 hSw0 ?_ (hQ:=zg7 rfl)
 refine tk 11 hSw0 ?_ (hQ:=zg7 rfl)
 refine tk 12 hSw0 ?_ (hQ:=zg7 rfl)
 refine tk 13 hSw0 ?_ (hy:=by intro w_ hS_;have b0:=hS_.1.cell t0 (hnS w.heap.size (by omega));have b1:=hS_.2.1;have b3:=hS_.2.2;first|(go_simp;done)|(go_simp;with_reducible rfl)) (hQ:=zg7 rfl)
 refine one_ 8 rfl (fun K hK=>?_)
 go_simp
 refine hK.out _ _ ?kS2 (fun hSw1=>?kR2)
 case kS2=>exact⟨((Fr.refl _ w6).alloc _).drew,FW.out.cell0 T1,FW.out.cell0 T3⟩
 clear hK K
 try simp only[Act.put,zs1,zs2,zs3]
 refine one_ 14 rfl (fun K hK=>?_)
 go_simp
 refine HWK.out.mono ?_
 rintro e w8 ⟨⟨f8,R⟩,SD⟩
 have hT8:=f8.blk (FW.out.blk HT6.out (fun h=>h)) (hnL _ (.inr rfl))
 have hbt8:=f8.blk (FW.out.blk HBT6.out (fun h=>h)) (hnL _ (.inl (by omega)))
 have hbe8:=f8.blk (FW.out.blk HBE6.out (fun h=>h)) (hnL _ (.inl (by omega)))
 rcases R with⟨hX,rfl⟩|⟨rfl,seen,m8,hseen⟩
 · show Qp [2,3] _ (.panic _) _ _
   intro a' h1 h2
   have g2:=h1 2 (by simp)
   have g3:=h1 3 (by simp)
   have e0:=z2g hbe8 0 rfl
   have ze:=z2e 0 hbe8
   have t0:=z2g hbt8 0 rfl
   have zt:=z2e 0 hbt8
   have hne:(⟨w.heap.size+1,0,none⟩:Addr)≠⟨w.heap.size,0,none⟩:=by simp
   simp at g2 g3
   show Leaves Tryz.prog _ a'.tmps _ a'.defers (.panicking _) w8
   rw[h2]
   refine leaves_cons (f:=41) (args:=#[.pointer (some ⟨w.heap.size+1,0,none⟩)]) (by simp) (by simp[go_sem]) ?_
   refine(z9x ⟨w.heap.size+1,0,none⟩ 0 22 [] w8 e0 ze).mono ?_
   rintro e u' w9 ⟨rfl,rfl,rfl⟩
   refine leaves_cons (f:=61) (args:=#[.pointer (some ⟨w.heap.size+1,0,none⟩),.pointer (some ⟨w.heap.size,0,none⟩)]) (by simp[settle]) (by simp[go_sem]) ?_
   refine(zgb (w.heap.size+1) w.heap.size 22 (.pointer (some ⟨w3.heap.size+1+1,0,none⟩)) _ rfl ?_ ?_ ?_).mono ?_
   · simp[go_sem,e0]
   · simp[go_sem,t0]
   · simp[go_sem,zt]
   rintro e u' w10 ⟨rfl,rfl,rfl⟩
   simp[Leaves,settle,results,Tryz.results28,go_sem,t0,e0,g2,g3]
   have hs0:w.heap.size+2≤w2.heap.size:=by have:=F2.out.size;omega
   have F06:=((F0.out.trans0 F2.out).trans F26.out (fun b hb e=>by omega)).trans0 FW.out
   exact⟨(((F06.trans f8 (fun b hb e=>by omega)).setCell (p:=⟨w.heap.size+1,0,none⟩) (.inl (by simp)) _).setCell (p:=⟨w.heap.size,0,none⟩) (.inl (by simp)) _).mono (fun _ _ h=>h.elim),hX⟩
 simp only[]
 have u1:=z2g hT8 1 rfl
 have u7:=z2g hT8 7 rfl
 have u2:=z2g hT8 2 rfl
 have u3:=z2g hT8 3 rfl
 have z2:=z2e 2 hT8
 have z3:=z2e 3 hT8
 have HT8:=zhd hT8
 have HBT8:=zhd hbt8
 have HBE8:=zhd hbe8
 have M8:=zhd m8
 have F8:=zhd f8
 have HSD:=zhd (SD (fun h=>by cases h))
 have HSE:=zhd hseen
 clear hT8 hbt8 hbe8 m8 f8 hseen SD
 refine hK.out _ _ ?kS3 (fun hSw2=>?kR3)
 case kS3=>exact⟨((FW.out.mono (C2:=fun b=>b=w3.heap.size∨b=w3.heap.size+1+1) (fun _ _ h=>h.elim))).trans F8.out (fun _ _ h=>.inl h),u1,u7⟩
 clear hK K
 try simp only[Act.put,zs1,zs2,zs3]
 refine tk 15 hSw2 ?_ (hQ:=zg7 rfl)
 refine tk 16 hSw2 ?_ (hQ:=zg7 rfl)
 refine tk 17 hSw2 ?_ (hQ:=zg7 rfl)
 refine tk 18 hSw2 ?_ (hQ:=zg7 rfl)
 refine tk 19 hSw2 ?_ (hQ:=zg7 rfl)
 refine tk 20 hSw2 ?_ (hQ:=zg7 rfl)
 refine one_ 21 rfl (fun K hK=>?_)
 go_simp
 refine hK.out _ _ ?kS4 (fun hSw3=>?kR4)
 case kS4=>exact⟨((FW.out.mono (C2:=fun b=>b=w3.heap.size∨b=w3.heap.size+1+1) (fun _ _ h=>h.elim)).trans F8.out (fun _ _ h=>.inl h)).setCell (p:=⟨w3.heap.size+1+1,2,none⟩) (.inr (.inr rfl)) _,by rw[World.cell?_setCell_other (h:=by simp)];exact u1,by rw[World.cell?_setCell_other (h:=by simp)];exact u7⟩
 clear hK K
 try simp only[Act.put,zs1,zs2,zs3]
 refine tk 22 hSw3 ?_ (hQ:=zg7 rfl)
 refine tk 23 hSw3 ?_ (hQ:=zg7 rfl)
 refine tk 24 hSw3 ?_ (hQ:=zg7 rfl)
 refine z1o 25 rfl (fun K hK=>?_)
 go_simp
 refine hK.out _ _ ?_;clear hK K
 try simp only[Act.put,zs1,zs2,zs3]
 refine z1q (by kernel_rfl) ?_ _
 simp only[Qp]
 have g9:=((Fr.refl (fun b=>b=w3.heap.size+1+1) w8).setCell (p:=⟨w3.heap.size+1+1,2,none⟩) (.inr rfl) (.int .i64 ((flat dd t).length:Int))).setCell (p:=⟨w3.heap.size+1+1,3,none⟩) (.inr rfl) (.int .i64 (dd:Int))
 have hT9:=z2f (i:=3) (z2f (i:=2) HT8.out (.int .i64 ((flat dd t).length:Int))) (.int .i64 (dd:Int))
 have hbt9:=g9.blk HBT8.out (fun e=>hnt e.symm)
 have hbe9:=g9.blk HBE8.out (fun e=>hnt1 e.symm)
 have M9:=zhd (M8.out.fr g9 (by omega))
 have K9:=zhd (((HM26.out.fr FW.out (fun h=>h)).fr F8.out (by omega)).fr g9 (by omega))
 have F29:=zhd (((F26.out.trans0 FW.out).trans F8.out (fun b hb e=>by omega)).trans g9 (fun b hb e=>by omega))
 have hs9:w6.heap.size<w8.heap.size:=by have:=F8.out.size;omega
 have hs99:=g9.size
 clear u1 u7 u2 u3 z2 z3 t0 T1 T3 g9 HWK HWI
 generalize (w8.setCell ⟨w3.heap.size+1+1,2,none⟩ (.int .i64 ((flat dd t).length:Int))).setCell ⟨w3.heap.size+1+1,3,none⟩ (.int .i64 (dd:Int))=w9 at *
 have t0:=z2g hbt9 0 rfl
 have u1:=z2g hT9 1 rfl
 have u2:=z2g hT9 2 rfl
 have u3:=z2g hT9 3 rfl
 have u4:=z2g hT9 4 rfl
 have u5:=z2g hT9 5 rfl
 have u6:=z2g hT9 6 rfl
 have z4:=z2e 4 hT9
 have z5:=z2e 5 hT9
 have z6:=z2e 6 hT9
 have HT9:=zhd hT9
 have HBT9:=zhd hbt9
 have HBE9:=zhd hbe9
 clear hT9 hbt9 hbe9
 go_wp2_with fail
 refine zg8 [2,3] ?_
 refine z1r (Fr C0 w9) [7] (by kernel_rfl) ?_
 have hSw0:(Fr C0 w9) _:=(Fr.refl _ w9).drew
 refine tk 0 hSw0 ?_ (hy:=by intro w_ hS_;have b0:=hS_.cell0 t0;have b1:=hS_.cell0 u1;have b2:=hS_.cell0 u2;have b3:=hS_.cell0 u3;first|(go_simp;done)|(go_simp;with_reducible rfl)) (hQ:=zg7 rfl)
 refine tk 1 hSw0 ?_ (hy:=by intro w_ hS_;have b0:=hS_.cell0 t0;have b1:=hS_.cell0 u1;have b2:=hS_.cell0 u2;have b3:=hS_.cell0 u3;first|(go_simp;done)|(go_simp;with_reducible rfl)) (hQ:=zg7 rfl)
 refine tk 2 hSw0 ?_ (hQ:=zg7 rfl)
 refine tk 3 hSw0 ?_ (hQ:=zg7 rfl)
 refine tk 4 hSw0 ?_ (hy:=by intro w_ hS_;have b0:=hS_.cell0 t0;have b1:=hS_.cell0 u1;have b2:=hS_.cell0 u2;have b3:=hS_.cell0 u3;first|(go_simp;done)|(go_simp;with_reducible rfl)) (hQ:=zg7 rfl)
 refine tk 5 hSw0 ?_ (hQ:=zg7 rfl)
 refine tk 6 hSw0 ?_ (hQ:=zg7 rfl)
 refine z1o 7 rfl (fun K hK=>?_)
 go_simp
 refine hK.out _ _ ?_;clear hK K
 try simp only[Act.put,zs1,zs2,zs3]
 refine z1q (by kernel_rfl) ?_ _
 simp only[Qp]
 have g10:=((((Fr.refl (fun b=>b=w3.heap.size+1+1) w9).setCell (p:=⟨w3.heap.size+1+1,4,none⟩) (.inr rfl) (.iface 3 (.int .i64 tid))).setCell (p:=⟨w3.heap.size+1+1,5,none⟩) (.inr rfl) (.int .i64 ((flat dd t).length:Int))).setCell (p:=⟨w3.heap.size+1+1,6,none⟩) (.inr rfl) (.int .i64 (dd:Int))).drew
 have hT11:(((w9.setCell ⟨w3.heap.size+1+1,4,none⟩ (.iface 3 (.int .i64 tid))).setCell ⟨w3.heap.size+1+1,5,none⟩ (.int .i64 ((flat dd t).length:Int))).setCell ⟨w3.heap.size+1+1,6,none⟩ (.int .i64 (dd:Int))).drew.heap[w3.heap.size+1+1]?=_:=z2f (i:=6) (z2f (i:=5) (z2f (i:=4) HT9.out (.iface 3 (.int .i64 tid))) (.int .i64 ((flat dd t).length:Int))) (.int .i64 (dd:Int))
 have hbt11:=g10.blk HBT9.out (fun e=>hnt e.symm)
 have hbe11:=g10.blk HBE9.out (fun e=>hnt1 e.symm)
 have M11:=zhd (M9.out.fr g10 (by omega))
 have K11:=zhd (K9.out.fr g10 (by omega))
 have F211:=zhd (F29.out.trans g10 (fun b hb e=>by omega))
 have hs11:=g10.size
 clear u1 u2 u3 u4 u5 u6 z4 z5 z6 t0 g10
 generalize (((w9.setCell ⟨w3.heap.size+1+1,4,none⟩ (.iface 3 (.int .i64 tid))).setCell ⟨w3.heap.size+1+1,5,none⟩ (.int .i64 ((flat dd t).length:Int))).setCell ⟨w3.heap.size+1+1,6,none⟩ (.int .i64 (dd:Int))).drew=w11 at *
 have t0:=z2g hbt11 0 rfl
 have u7:w11.cell? ⟨w3.heap.size+1+1,7,none⟩=some (.map (some w3.heap.size)):=z2g hT11 7 rfl
 have HT11:=zhd hT11
 have HBT11:=zhd hbt11
 have HBE11:=zhd hbe11
 clear hT11 hbt11 hbe11
 have hnd:=zg3 M11.out
 have hse:∀x,x∈seen↔0<cnt dd (.pg x) t:=fun x=>by rw[HSE.out x];simp
 have hseb:∀x∈seen,2≤x∧x<D.blocks-2+2:=fun x hx=>by
  have:=Rep.ids HPG.out HRT.out ((hse x).1 hx)
  have:=HB.out.1
  omega
 have hsl:seen.length≤5000:=by
  have:=z97 (b:=(List.range (D.blocks-2)).map (·+2)) hnd fun x hx=>by
   have:=hseb x hx
   exact List.mem_map.2 ⟨x-2,List.mem_range.2 (by omega),by show x-2+2=x;omega⟩
  have h2:=HB.out.2
  simp at this
  omega
 have HND:=zhd hnd
 have HSEE:=zhd hse
 have HSEB:=zhd hseb
 have HKY:Hid (∀w_,Fr C0 w11 w_→Calls Tryz.prog 63 #[.map (some w3.heap.size)] w_ fun e w'=>∃(v:Value) (K:List Nat),e=.returned v∧K.Nodup∧(∀x,x∈K↔x∈seen)∧w'.ownsRow w_.heap.size 3 1 v K.length (K.map natV)∧Fr C0 w_ w'):=zhd (fun w_ hf_=>zg2 (M11.out.fr hf_ (fun h=>h)) hsl)
 clear hnd hse hseb hsl
 go_wp2_with fail
 have hnc:∀b es ck sm,w11.heap[sm]?=some (.map es ck)→(b=w.heap.size∨b=w.heap.size+1∨b=w3.heap.size+1+1)→¬b=sm:=fun b es ck sm h hb e=>by
  subst e
  rcases hb with rfl|rfl|rfl
  · rw[HBT11.out] at h;injection h with h;cases h
  · rw[HBE11.out] at h;injection h with h;cases h
  · rw[HT11.out] at h;injection h with h;cases h
 have e0:=z2g HBE11.out 0 rfl
 have ze:=z2e 0 HBE11.out
 have zt:=z2e 0 HBT11.out
 have HNC:=zhd hnc
 have hs13:w3.heap.size+3≤w11.heap.size:=by omega
 clear hnc
 refine zg8 [2,3] ?_
 refine z1r ((fun w_:World=>w_.cell? ⟨w.heap.size,0,none⟩=some (.pointer (some ⟨w3.heap.size+1+1,0,none⟩))∧w_.cell? ⟨w3.heap.size+1+1,7,none⟩=some (.map (some w3.heap.size)))) [8,9] (by kernel_rfl) ?_
 have hSw0:((fun w_:World=>w_.cell? ⟨w.heap.size,0,none⟩=some (.pointer (some ⟨w3.heap.size+1+1,0,none⟩))∧w_.cell? ⟨w3.heap.size+1+1,7,none⟩=some (.map (some w3.heap.size)))) _:=⟨t0,u7⟩
 refine tk 0 hSw0 ?_ (hy:=by intro w_ hS_;have b0:=hS_.1;have b7:=hS_.2;first|(go_simp;done)|(go_simp;with_reducible rfl)) (hQ:=zg7 rfl)
 refine tk 1 hSw0 ?_ (hQ:=zg7 rfl)
 refine tk 2 hSw0 ?_ (hy:=by intro w_ hS_;have b0:=hS_.1;have b7:=hS_.2;first|(go_simp;done)|(go_simp;with_reducible rfl)) (hQ:=zg7 rfl)
 refine tk 3 hSw0 ?_ (hQ:=zg7 rfl)
 refine tk 4 hSw0 ?_ (hQ:=zg7 rfl)
 refine tk 5 hSw0 ?_ (hy:=by intro w_ hS_;have b0:=hS_.1;have b7:=hS_.2;first|(go_simp;done)|(go_simp;with_reducible rfl)) (hQ:=zg7 rfl)
 refine one_ 6 rfl (fun K hK=>?_)
 go_simp
 refine(HKY.out _ (Fr.refl _ w11).drew).mono ?_
 rintro e w12 ⟨kv,ks12,rfl,kn,kse,ko,f12⟩
 simp only[]
 have F12:=zhd ((Fr.refl C0 w11).drew.trans0 f12)
 have KO:=zhd ko
 have KN:=zhd kn
 have KSE:=zhd kse
 have hkb:∀b,kv.ownBlock=some b→w11.heap.size≤b:=fun b hb=>(ko.lt b hb).1
 have HKB:=zhd hkb
 clear ko f12 kn kse hkb
 refine hK.out _ _ ?kS5 (fun hSw1=>?kR5)
 case kS5=>exact⟨F12.out.cell0 t0,F12.out.cell0 u7⟩
 clear hK K
 try simp only[Act.put,zs1,zs2,zs3]
 refine one_ 7 rfl (fun K hK=>?_)
 go_simp
 refine(zg4 (c:=c7) (r:=r) (HSt.out _ (F211.out.trans0 F12.out)) HAL.out rfl KO.out (fun k hk=>HSEB.out k ((KSE.out k).1 hk)) KN.out ho.r0 (fun b hb e=>by rw[hcl7 b (by have:=HKB.out b hb;omega)] at e;exact ho.r0 e.symm)).mono ?_
 rintro e w13 ⟨rfl,s13,sm,hsm,⟨es,ck,hb⟩,f13⟩
 simp only[]
 have hsm11:∀b,(b=w.heap.size∨b=w.heap.size+1∨b=w3.heap.size+1+1)→¬b=sm:=fun b hb1 e=>by
  have hlt:b<w11.heap.size:=by omega
  rw[F12.out.block sm (by omega) (fun h=>h)] at hb
  exact HNC.out b es ck sm hb hb1 e
 have F13:=zhd f13
 have S13:=zhd s13
 have t0':=f13.cell (F12.out.cell0 t0) (hsm11 _ (.inl rfl))
 have u7':=f13.cell (F12.out.cell0 u7) (hsm11 _ (.inr (.inr rfl)))
 have e0':=f13.cell (F12.out.cell0 e0) (hsm11 _ (.inr (.inl rfl)))
 have zt':=z2e 0 (f13.blk (F12.out.blk HBT11.out (fun h=>h)) (hsm11 _ (.inl rfl)))
 have ze':=z2e 0 (f13.blk (F12.out.blk HBE11.out (fun h=>h)) (hsm11 _ (.inr (.inl rfl))))
 have HT13:=zhd (f13.blk (F12.out.blk HT11.out (fun h=>h)) (hsm11 _ (.inr (.inr rfl))))
 clear f13 s13
 refine hK.out _ _ ?kS6 (fun hSw2=>?kR6)
 case kS6=>exact⟨t0',u7'⟩
 clear hK K
 try simp only[Act.put,zs1,zs2,zs3]
 refine z1o 8 rfl (fun K hK=>?_)
 go_simp
 refine hK.out _ _ ?_;clear hK K
 try simp only[Act.put,zs1,zs2,zs3]
 refine z1o 9 rfl (fun K hK=>?_)
 go_simp
 refine hK.out _ _ ?_;clear hK K
 try simp only[Act.put,zs1,zs2,zs3]
 refine z1q (by kernel_rfl) ?_ _
 simp only[Qp]
 have f14:=((Fr.refl (fun b=>b=w.heap.size∨b=w.heap.size+1) w13).setCell (p:=⟨w.heap.size,0,none⟩) (.inr (.inl rfl)) (.pointer (some ⟨w3.heap.size+1+1,0,none⟩))).setCell (p:=⟨w.heap.size+1,0,none⟩) (.inr (.inr rfl)) (.int .i64 0)
 have HF14:=zhd f14
 clear f14 t0 u7 e0 ze zt
 go_wp2_with fail
 refine leaves_cons (f:=41) (args:=#[.pointer (some ⟨w.heap.size+1,0,none⟩)]) (by simp) (by simp[go_sem]) ?_
 refine(z9y _ _).mono ?_
 rintro e u' w14 ⟨rfl,rfl,rfl⟩
 refine leaves_cons (f:=61) (args:=#[.pointer (some ⟨w.heap.size+1,0,none⟩),.pointer (some ⟨w.heap.size,0,none⟩)]) (by simp[settle]) (by simp[go_sem]) ?_
 refine(zga (w.heap.size+1) w.heap.size _ ?_).mono ?_
 · simp[go_sem,e0']
 rintro e u' w15 ⟨rfl,rfl,rfl⟩
 simp[Leaves,settle,results,Tryz.results28,go_sem,t0',e0']
 have f14:=HF14.out
 generalize (w13.setCell ⟨w.heap.size,0,none⟩ (.pointer (some ⟨w3.heap.size+1+1,0,none⟩))).setCell ⟨w.heap.size+1,0,none⟩ (.int .i64 0)=w14 at *
 have hag:Ag w.heap.size c c7:=fun b hb=>(hag7 b (by omega)).trans ((ag2 b (by omega)).trans (hag1 b hb))
 have hs0:w.heap.size+2≤w2.heap.size:=by have:=F2.out.size;omega
 have F011:=((F0.out.trans0 F2.out).trans F211.out (fun b hb e=>by omega)).trans0 F12.out
 have F014:Fr (fun b=>c b=r) w w14:=((F011.mono (C2:=fun b=>c b=r) (fun _ _ h=>h.elim)).trans F13.out (fun b hb e=>by rw[e] at hb⊢;exact(hag sm hb).symm.trans hsm)).trans f14 (fun b hb e=>by omega)
 have hne:∀b,w3.heap.size≤b→¬(b=w.heap.size∨b=w.heap.size+1):=fun b hb e=>by omega
 have hT14:=f14.blk HT13.out (hne _ (by omega))
 have hl:∀b,c7 b=rm→¬b=sm:=fun b hb e=>ho.mr (hb.symm.trans (by rw[e];exact hsm))
 refine⟨F014,c7,hag,by omega,HSD.out,seen,ks12,st,w3.heap.size,w3.heap.size+1,wPage t.id,wPage t.id,.slice none 0 0,.slice none 0 0,[],?_⟩
 have hcl:Cl w14 c7:=fun b hb=>hcl7 b (by have h1:=F12.out.size;have h2:=F13.out.size;have h3:=f14.size;omega)
 have hR:=Rep.said HPG.out HSD.out HRT.out
 refine⟨⟨z2g hT14 0 rfl,S13.out.fr f14 (fun b hb e=>hqr ((hce7 b hb).symm.trans e)) (fun b hb e=>hq0 ((hce7 b hb).symm.trans e)),⟨hdn,rfl,HAL.out.size,HAL.out.small⟩,hc73⟩,hcl,?_,World.ownsRow_nil _ _ _ _,fun b e=>by simp[Value.ownBlock] at e,World.ownsRow_nil _ _ _ _,fun b e=>by simp[Value.ownBlock] at e,((M11.out.fr F12.out (fun h=>h)).fr F13.out (hl _ hc71)).fr f14 (hne _ (Nat.le_refl _)),hc71,((K11.out.fr F12.out (fun h=>h)).fr F13.out (hl _ hc72)).fr f14 (hne _ (by omega)),hc72,by omega,⟨Rep.pageW HPG.out hR,HSH.out⟩,⟨Rep.pageW HPG.out hR,HSH.out⟩,SnapsIn.nil _ _ _ _ _ _ _,zg9 HRT.out HPG.out HSO.out HONE.out HLN.out HB.out.1 hop hok hnum HFO.out HND.out KN.out KSE.out HSEE.out⟩
 rw[←hid] at hT14
 exact hT14
end
end Go.Proofs.YtcmicdcikechkaaGreat
