import Derived.Test.YtidalepbkljkpaaGreatLocalSpaces09
import Derived.Test.YtidalepbkljkpaaGreatProg
import Derived.Test.YtidalepbkljkpaaGreatLocalSpaces01
set_option linter.all false
namespace Go.Proofs.YtidalepbkljkpaaGreat
open Go.RowKit Go.H
set_option maxRecDepth 100000
section
set_option maxHeartbeats 1000000
def SFlushR (c:Nat→Nat) (r:Nat) (w:World) (st sm d m:Nat) (S:SSt) (D:DSt) (err:Int) (w':World):Prop:=Fr (fun b=>b=m∨b=d) w w'∧((err=0∧StoreIn c r w' st sm d m (.slice none 0 0) S D.tick.flush)∨(err=20∧Fell c r w w' d D (CutQ D)))
theorem z5k {c:Nat→Nat} {r:Nat} {w:World} {st sm d m:Nat} {ov:Value} {S:SSt} {D:DSt} (h:StoreIn c r w st sm d m ov S D) (hd:D.down=false) (hr:r≠0) (hc:Cl w c) :
 Calls Tryz.prog 172 #[.pointer (some ⟨d,0,none⟩)] w fun e w'=>∃err:Int,e=.returned (.int .i64 err)∧Hid (SFlushR c r w st sm d m S D err w'):=by
 refine(z3v h.disk hd (fun b hb=>hc b hb) (fun k=>hr (h.om.symm.trans k)) (fun k=>hr (h.od.symm.trans k)) h.d_m h.ov_m h.ov_d).mono ?_
 rintro e w' ⟨err,rfl,H⟩
 obtain⟨f,(⟨rfl,D2⟩|⟨rfl,hf⟩)⟩:=H.out
 · exact⟨0,rfl,zhd ⟨f,.inl ⟨rfl,⟨f.blk h.blk (fun k=>k.elim h.st_m h.st_d),h.map.fr f (fun k=>k.elim h.ne (fun e=>h.d_sm e.symm)),D2,h.ost,h.osm,h.od,h.om,fun b hb=>by simp[Value.ownBlock] at hb,h.ne,h.dk⟩⟩⟩⟩
 · exact⟨20,rfl,zhd ⟨f,.inr ⟨rfl,Fell.of hf (fun b hb=>hb) hc f.size h.od h.om h.d_m⟩⟩⟩
def SWriteR (c:Nat→Nat) (r:Nat) (w:World) (st sm d m k:Nat) (S:SSt) (D:DSt) (b:Bs) (err:Int) (w':World):Prop:=Fr (fun b=>c b=r∧b≠st) w w'∧((err=0∧∃c' ov',Ag w.heap.size c c'∧Cl w' c'∧StoreIn c' r w' st sm d m ov' S (D.tick.write k b)∧Fr (fun b=>c b=r∧b≠st∧b≠sm∧b≠m) w w')∨(err=20∧Fell c r w w' d D (CutQ D)))
theorem z5l {c:Nat→Nat} {r:Nat} {w:World} {st sm d m k:Nat} {ov v:Value} {S:SSt} {D:DSt} {b:Bs} (h:StoreIn c r w st sm d m ov S D) (hd:D.down=false) (hr:r≠0) (hc:Cl w c) (hk:k<D.blocks) (hv:BytesAt (Dt c) w v b) (hb:b.length≤8192) (ho:D.opn.length<100000) :
 Calls Tryz.prog 173 #[.pointer (some ⟨d,0,none⟩),.int .i64 (k:Int),v] w fun e w'=>∃err:Int,e=.returned (.int .i64 err)∧Hid (SWriteR c r w st sm d m k S D b err w'):=by
 have hs:=h
 refine(z3u (hs.disk.mono (F':=fun b=>c b=0∧b<w.heap.size) fun b hb hl=>⟨hb,hl⟩) hd hk (hv.mono fun b hb hl=>⟨hb,hl⟩) hb ho (fun k=>hr (hs.om.symm.trans k.1)) (fun k=>hr (hs.od.symm.trans k.1)) hs.d_m hs.ov_m hs.ov_d (fun b hb k=>hr ((hs.oov b hb).symm.trans k.1))).mono ?_
 rintro e w3 ⟨err,rfl,H⟩
 obtain⟨f0,hh⟩:=H.out
 have F0:Fr (fun b=>c b=r∧b≠st) w w3:=f0.mono fun b _ h=>by
  rcases h with h|h|h
  · exact⟨hs.oov b h,hs.ov_st b h⟩
  · exact h▸⟨hs.om,hs.st_m.symm⟩
  · exact h▸⟨hs.od,fun e=>hs.st_d e.symm⟩
 rcases hh with⟨rfl,ov',ho',D3,f3⟩|⟨rfl,hf⟩
 case inr=>exact⟨20,rfl,zhd ⟨F0,.inr ⟨rfl,Fell.of hf (fun b hb=>hb.elim (fun h=>h.1) (fun h=>hc b h)) hc F0.size hs.od hs.om hs.d_m⟩⟩⟩
 have hag:=z2m (c:=c) (r:=r) hs.oov ho'
 obtain⟨xs3,o3,o3'⟩:=D3.opn
 have e3:=f3.size
 have hst:=(Array.getElem?_eq_some_iff.1 hs.blk).1
 have hsm:=hs.map.lt
 have hmlt:m<w.heap.size:=by obtain⟨M,k1,_⟩:=hs.disk.kept;exact k1.lt
 have hdlt:d<w.heap.size:=(Array.getElem?_eq_some_iff.1 hs.disk.blk).1
 refine⟨0,rfl,zhd ⟨F0,.inl ⟨rfl,setc c ov'.ownBlock r,ov',hag,?_,⟨?_,?_,?_,?_,?_,?_,?_,?_,hs.ne,hs.dk⟩,?_⟩⟩⟩
 · intro b hb
   unfold setc
   split
   · rename_i e;have:=(o3.lt b e).2;omega
   · exact hc b (by omega)
 · exact f3.blk hs.blk (fun k=>k.elim (fun k=>hs.ov_st _ k rfl) hs.st_d)
 · exact hs.map.fr f3 (fun k=>k.elim (fun k=>hs.ov_sm _ k rfl) (fun e=>hs.d_sm e.symm))
 · refine D3.mono (fun b hb _=>?_)
   unfold Dt setc
   split
   · rename_i e
     rcases hb with hb|hb
     · rcases ho' b e with h|h
       · exact absurd (hb.1.symm.trans (hs.oov b h)) (fun h=>hr h.symm)
       · omega
     · exact absurd e hb.2
   · rcases hb with hb|hb
     · exact hb.1
     · exact hc b (by omega)
 · exact(hag st hst).trans hs.ost
 · exact(hag sm hsm).trans hs.osm
 · exact(hag d hdlt).trans hs.od
 · exact(hag m hmlt).trans hs.om
 · intro b hb;simp[setc,hb]
 · exact f3.mono (fun b _ k=>k.elim (fun k=>⟨hs.oov b k,hs.ov_st b k,hs.ov_sm b k,hs.ov_m b k⟩) (fun e=>by subst e;exact⟨hs.od,fun e=>hs.st_d e.symm,hs.d_sm,hs.d_m⟩))
end
section
set_option maxHeartbeats 1000000
theorem z5m (D:DSt):D.flush.down=D.down:=by unfold DSt.flush;rw[z2h]
theorem z5n (D:DSt):D.flush.after=D.after:=by unfold DSt.flush;rw[z2h]
theorem z5o (D:DSt):D.flush.blocks=D.blocks:=by unfold DSt.flush;rw[z2h]
theorem z5p (D:DSt):D.flush.life=D.life:=by unfold DSt.flush;rw[z2h]
def dcommit (D:DSt) (num root:Nat):DSt:=(D.tick.flush.tick.write (num % 2) (headB num root)).tick.flush
def ComQ (D:DSt) (num root:Nat) (D':DSt):Prop:=CutQ D D'∨CutQ D.tick.flush D'∨CutQ (D.tick.flush.tick.write (num % 2) (headB num root)) D'
def SSt.commit (S:SSt) (root:Nat):SSt:={ S with num:=S.num+1,root:=root,state:=S.state.filter (fun p=>decide (p.2≠2)) }
theorem z5q (a b:Int) (w:World):(binOp .geq 61 (.int .u64 a) (.int .u64 b)).run Tryz.prog w=.ok (.bool (decide (b≤a))) w:=by
 have h:=Tryz.underlying61
 simp[go_sem,binOp,h]
def SComR (c:Nat→Nat) (r:Nat) (w:World) (st root:Nat) (S:SSt) (D:DSt) (err:Int) (w':World):Prop:=Fr (fun b=>c b=r) w w'∧((err=0∧∃c',Ag w.heap.size c c'∧Cl w' c'∧StoreOk c' r w' st (S.commit root) (dcommit D (S.num+1) root))∨(err=20∧Fell c r w w' S.dk D (ComQ D (S.num+1) root)))
theorem z5r {c:Nat→Nat} {r:Nat} {w:World} {st root:Nat} {R:Int} {S:SSt} {D:DSt} (h:StoreOk c r w st S D) (hal:Alive S D) (hr:r≠0) (hc:Cl w c) (ho:D.opn.length<100000) (hR:R=(root:Int)) (hroot:R=0∨¬R=0∧(aget R S.state).getD 0=1) (hrb:root<4611686018427387904) (hn:S.num<4611686018427387904) :
 Calls Tryz.prog 151 #[.pointer (some ⟨st,0,none⟩),.int .i64 R] w fun e w'=>∃err:Int,e=.returned (.int .i64 err)∧Hid (SComR c r w st root S D err w'):=by
 obtain⟨sm,d,m,ov,h⟩:=h
 have H2:=zhd (z4z h)
 rw[hal.dead] at H2
 have h2:=h.fr0 (Fr.refl C0 w).drew
 have HS:=zhd h2
 have c1:=z2k h2.blk 1 rfl
 have c2:=z2k h2.blk 2 rfl
 have c40:=z2k h2.blk 4 rfl
 have hl:=z4x h2.map R
 have HN:Hid (∃N:Int,N=(S.num:Int)):=zhd ⟨_,rfl⟩
 obtain⟨N,hN⟩:=HN.out
 have c4:w.drew.cell? ⟨st,4,none⟩=some (.int .u64 N):=by rw[hN];exact c40
 clear c40
 have hge:(binOp .geq 61 (.int .u64 N) (.int .u64 4611686018427387904)).run Tryz.prog w.drew=.ok (.bool false) w.drew:=by
  rw[z5q,decide_eq_false (by omega)]
 have hw1:IntKind.u64.wrap (N+1)=N+1:=by rw[z19 _ (by omega) (by omega)]
 have hnn:N<4611686018427387904:=by omega
 have hnn0:0≤N:=by omega
 have hN1:((S.num+1:Nat):Int)=N+1:=by omega
 have HH:=zhd (fun (w_:World)=>z4q w_ (S.num+1) root (by omega) hrb)
 rw[hN1,←hR] at HH
 have HFl:=zhd (z5k (HS.out.fr0 ((Fr.refl C0 _).alloc (.cells #[.int .u64 (N+1),.int .i64 R] 170))) hal.down hr (hc.mono (by simp)))
 have HN1:=zhd hN
 clear hN hN1 HN
 have ca:=((Fr.refl C0 w).alloc (.cells #[.int .u64 (N+1),.int .i64 R] 170)).drew.cell0 (show w.cell? ⟨st,2,none⟩=_ from c2)
 have HRR:=zhd hR
 have HC:=zhd hc
 have HR0:=zhd hr
 have HB:=zhd hrb
 have HO:=zhd ho
 have HAL:=zhd hal
 clear h h2 hR hn hc hr hrb ho hal
 go_enter Tryz.func151,Tryz.ntmps151
 go_wp2_with fail
 refine H2.out.mono ?_
 rintro e w1 ⟨rfl,rfl⟩
 clear H2
 have hcase:Hid ((R != 0)=false∨(R != 0)=true∧(aget R S.state).getD 0=1):=by
  rcases hroot with h0|⟨h0,h1⟩
  · exact zhd (.inl (by simp[bne,z32,h0]))
  · exact zhd (.inr ⟨by simp[bne,z32,h0],h1⟩)
 clear hroot
 have hlt0:=HS.out.disk.blk
 have hdl:d<w.heap.size:=(Array.getElem?_eq_some_iff.1 hlt0).1
 have hml:m<w.heap.size:=by obtain⟨M,k1,_⟩:=HS.out.disk.kept;exact k1.lt
 clear hlt0
 rcases hcase.out with h0b|⟨h0b,h1⟩
 · skip
   go_wp2_with fail
   refine HFl.out.mono ?_
   rintro e w2 ⟨err2,rfl,HR2⟩
   obtain⟨f2,(⟨rfl,HS2'⟩|⟨rfl,hfell⟩)⟩:=HR2.out
   case inr=>
    have HE:Hid (SComR c r w st root S D 20 w2):=zhd ⟨((((Fr.refl (fun b=>c b=r) w).drew.alloc (.cells #[.int .u64 (N+1),.int .i64 R] 170)).trans (f2.mono fun b _ h=>by rcases h with h|h;exact h▸HS.out.om;exact h▸HS.out.od) (fun _ _ h=>h))),.inr ⟨rfl,by
     rw[←HS.out.dk]
     exact(hfell.later (Ag.refl _ _) (by simp) (fun h=>h) rfl (fun _ h=>.inl h))⟩⟩
    clear HR2 hfell f2 ca c1 c2 c4 hl hge HFl
    go_wp2
    go_ret
    exact⟨20,rfl,HE⟩
   clear HR2
   have HS2:=zhd HS2'
   have hb2:w2.heap[w.heap.size]?=some (.cells #[.int .u64 (N+1),.int .i64 R] 170 (0,0)):=f2.blk (heap_alloc_new w.drew _) (fun k=>k.elim (fun k=>absurd (show w.heap.size=m from k) (by omega)) (fun k=>absurd (show w.heap.size=d from k) (by omega)))
   have HB2:=zhd hb2
   have k0:=z2k hb2 0 rfl
   have k1:=z2k hb2 1 rfl
   have k2:=z2k HS2'.blk 2 rfl
   have HF2:=zhd (((Fr.refl (fun b=>b=m∨b=d) w).drew.alloc (.cells #[.int .u64 (N+1),.int .i64 R] 170)).trans f2 (fun _ _ h=>h))
   have hm2:(N+1).tmod 2=(((S.num+1) % 2:Nat):Int):=by rw[Int.tmod_eq_emod_of_nonneg (by omega)];have:=HN1.out;omega
   have hi2:IntKind.i64.wrap (((S.num+1) % 2:Nat):Int)=(((S.num+1) % 2:Nat):Int):=by rw[IntWalk.i64_in _ (by omega)]
   have HI:=zhd (show IntKind.i64.wrap ((N+1).tmod 2)=(((S.num+1) % 2:Nat):Int) by rw[hm2,hi2])
   clear hm2 hi2
   clear HS2' f2 hb2 HFl ca c1 c2 c4 hl hge
   have hcz:c w.heap.size=0:=HC.out _ (Nat.le_refl _)
   have hc0:¬(c w.heap.size=r∧w.heap.size≠st):=fun k=>HR0.out (k.1.symm.trans hcz)
   have hs2:=HF2.out.size
   go_wp2_with fail
   have hnn9:=zhd hnn
   clear hnn
   generalize decide ((4611686018427387904:Int)≤N)=B
   refine z1z (Fr (fun b=>c b=r∧b≠st) w2) [] (by kernel_rfl) ?_
   have hSw0:(Fr (fun b=>c b=r∧b≠st) w2) _:=(Fr.refl (fun b=>c b=r∧b≠st) w2).drew
   refine tk 0 hSw0 ?_
   refine tk 1 hSw0 ?_
   refine tk 2 hSw0 ?_
   refine tk 3 hSw0 ?_ (hy:=by intro w_ hS_;have j0:=hS_.cell k0 hc0;have j1:=hS_.cell k1 hc0;have j2:=hS_.cell k2 (fun h=>h.2 rfl);first|(go_simp;done)|(go_simp;with_reducible rfl))
   refine tk 4 hSw0 ?_
   refine tk 5 hSw0 ?_ (hy:=by intro w_ hS_;have j0:=hS_.cell k0 hc0;have j1:=hS_.cell k1 hc0;have j2:=hS_.cell k2 (fun h=>h.2 rfl);first|(go_simp;done)|(go_simp;with_reducible rfl))
   refine tk 6 hSw0 ?_
   refine tk 7 hSw0 ?_
   refine tk 8 hSw0 ?_ (hy:=by intro w_ hS_;have j0:=hS_.cell k0 hc0;have j1:=hS_.cell k1 hc0;have j2:=hS_.cell k2 (fun h=>h.2 rfl);first|(go_simp;done)|(go_simp;with_reducible rfl))
   refine one_ 9 rfl (fun K hK=>?_)
   go_simp
   refine(HH.out _).mono ?_
   rintro e w3 ⟨v3,rfl,f3,o3⟩
   simp only[]
   have HF3:=zhd ((show Fr _ w2 _ from hSw0).trans0 f3)
   have HF30:=zhd ((Fr.refl C0 w2).drew.trans0 f3)
   have HV3:Hid (BytesAt (Dt c) w3 v3 (headB (S.num+1) root)):=zhd (BytesAt.ofOwn (by rw[z4k];exact o3) (fun b hb=>by have:=(o3.lt b hb).1;exact HC.out b (by have:w2.drew.heap.size=w2.heap.size:=rfl;omega)))
   clear f3 o3
   refine hK.out _ _ ?kS1 (fun hSw1=>?kR1)
   case kS1=>exact HF3.out
   clear hK K
   try simp only[Act.put,zs1,zs2,zs3]
   refine one_ 10 rfl (fun K hK=>?_)
   go_simp
   rw[HI.out]
   have hs3:=HF30.out.size
   refine(z5l (HS2.out.fr0 HF30.out) (by rw[z5m];exact HAL.out.down) HR0.out (HC.out.mono (by omega)) (k:=(S.num+1) % 2) (by rw[z5o];show(S.num+1) % 2<D.blocks;rw[HAL.out.size];omega) HV3.out (by rw[z4k];omega) (by simp[DSt.flush])).mono ?_
   rintro e w4 ⟨err4,rfl,HR4⟩
   simp only[]
   have HF4:=zhd (HF3.out.trans HR4.out.1 (fun b _ h=>h))
   refine hK.out _ _ ?kS2 (fun hSw2=>?kR2)
   case kS2=>exact HF4.out
   clear hK K
   try simp only[Act.put,zs1,zs2,zs3]
   refine tk 11 hSw2 ?_
   refine z1y (by kernel_rfl) ?_ _
   obtain⟨-,(⟨rfl,c4,ov4,ag4,cl4,s4,-⟩|⟨rfl,hfell⟩)⟩:=HR4.out
   case inr=>
    have HE:Hid (SComR c r w st root S D 20 w4):=zhd ⟨(HF2.out.mono (C2:=fun b=>c b=r) (fun b _ h=>by rcases h with h|h;exact h▸HS.out.om;exact h▸HS.out.od)).trans (HF4.out.mono (fun _ _ h=>h.1)) (fun _ _ h=>h),.inr ⟨rfl,by
     rw[←HS.out.dk]
     exact(hfell.later (Ag.refl _ _) (by have:=HF2.out.size;have:=HF30.out.size;omega) (fun h=>by rw[z5n];exact z55 h) (by rw[z5o];rfl) (fun _ h=>.inr (.inl h)))⟩⟩
    clear HR4 hfell k0 k1 k2
    go_wp2
    go_ret
    exact⟨20,rfl,HE⟩
   have HA4:=zhd ag4
   have HC4:=zhd cl4
   have HS4:=zhd s4
   clear ag4 cl4 s4 HR4
   have cst:=z2k HS4.out.blk 2 rfl
   have HFl2:=zhd (z5k HS4.out (show D.tick.flush.down=false by rw[z5m];exact HAL.out.down) HR0.out HC4.out)
   go_wp2_with fail
   refine HFl2.out.mono ?_
   rintro e w5 ⟨err5,rfl,HR5⟩
   obtain⟨f5,(⟨rfl,HS5'⟩|⟨rfl,hfell⟩)⟩:=HR5.out
   case inr=>
    have HE:Hid (SComR c r w st root S D 20 w5):=zhd ⟨((HF2.out.mono (C2:=fun b=>c b=r) (fun b _ h=>by rcases h with h|h;exact h▸HS.out.om;exact h▸HS.out.od)).trans (HF4.out.mono (fun _ _ h=>h.1)) (fun _ _ h=>h)).trans (f5.mono (C2:=fun b=>c b=r) fun b _ h=>by rcases h with h|h;exact h▸HS.out.om;exact h▸HS.out.od) (fun _ _ h=>h),.inr ⟨rfl,by
     rw[←HS.out.dk]
     exact(hfell.later (fun b hb=>HA4.out b (by have:=HF2.out.size;have:=HF30.out.size;omega)) (by have:=HF2.out.size;have:=HF4.out.size;omega) (fun h=>by show(D.tick.flush.tick).after<1;exact z55 (by rw[z5n];exact z55 h)) (by show D.tick.flush.blocks=_;rw[z5o];rfl) (fun _ h=>.inr (.inr h)))⟩⟩
    clear HR5 hfell k0 k1 k2 cst
    go_wp2
    go_ret
    exact⟨20,rfl,HE⟩
   clear HR5
   have HS5:=zhd HS5'
   have F25:=zhd (HF4.out.trans f5 (fun b hb h=>h.elim (fun e=>by subst e;exact⟨HS.out.om,HS.out.st_m.symm⟩) (fun e=>by subst e;exact⟨HS.out.od,HS.out.st_d.symm⟩)))
   have f25sz:=f5.size
   clear HFl2 cst HS5' f5
   have m0:=F25.out.cell k0 hc0
   have m1:=F25.out.cell k1 hc0
   have m4:=z2k HS5.out.blk 4 rfl
   have m5:=z2k HS5.out.blk 5 rfl
   have z4:=z2i 4 HS5.out.blk
   have z5:=z2i 5 HS5.out.blk
   have b6:=z2j (i:=5) (z2j (i:=4) HS5.out.blk (.int .u64 (N+1))) (.int .i64 R)
   have F6:=zhd (((Fr.refl (fun b=>b=st) w5).setCell (p:=⟨st,4,none⟩) (.inr rfl) (.int .u64 (N+1))).setCell (p:=⟨st,5,none⟩) (.inr rfl) (.int .i64 R))
   have hs5:=HS5.out
   have HS6:=zhd (z5j (S:={ S with num:=S.num+1,root:=root }) ⟨by
    rw[show((S.num+1:Nat):Int)=N+1 from by have:=HN1.out;omega,←HRR.out];exact b6,hs5.map.fr F6.out hs5.st_sm.symm,hs5.disk.fr F6.out hs5.st_d.symm hs5.st_m.symm (fun b hb=>by simp[Value.ownBlock] at hb) (fun b hb e=>HR0.out (by subst e;exact hs5.ost.symm.trans hb)),hs5.ost,hs5.osm,hs5.od,hs5.om,hs5.oov,hs5.ne,hs5.dk⟩ HR0.out)
   clear b6 hs5
   go_wp2_with fail
   refine HS6.out.mono ?_
   rintro e w7 ⟨rfl,s7,f7⟩
   have HS7:=zhd s7
   have HF7:=zhd f7
   clear s7 f7 m0 m1 m4 m5 z4 z5
   go_wp2
   go_ret
   have hs4:=HF4.out.size
   have hs7:=HF7.out.size
   have hs25:=F25.out.size
   have hs6:=F6.out.size
   have hcl:=HC4.out.mono (show w4.heap.size≤w7.heap.size by have:=f25sz;omega)
   refine⟨0,rfl,zhd ⟨?_,.inl ⟨rfl,c4,fun b hb=>HA4.out b (by omega),hcl,⟨sm,d,m,_,HS7.out⟩⟩⟩⟩
   refine(HF2.out.mono (fun b _ h=>?_)).trans (((F25.out.mono (fun b _ h=>h.1)).trans (F6.out.mono (C2:=fun b=>c b=r) (fun b _ h=>?_)) (fun _ _ h=>h)).trans (HF7.out.mono (C2:=fun b=>c b=r) (fun b _ h=>?_)) (fun _ _ h=>h)) (fun _ _ h=>h)
   · rcases h with h|h
     · rw[h];exact HS.out.om
     · rw[h];exact HS.out.od
   · rw[h];exact HS.out.ost
   · rw[h];exact HS.out.osm
 · rw[h1] at hl
   go_wp2_with fail
   refine HFl.out.mono ?_
   rintro e w2 ⟨err2,rfl,HR2⟩
   obtain⟨f2,(⟨rfl,HS2'⟩|⟨rfl,hfell⟩)⟩:=HR2.out
   case inr=>
    have HE:Hid (SComR c r w st root S D 20 w2):=zhd ⟨((((Fr.refl (fun b=>c b=r) w).drew.alloc (.cells #[.int .u64 (N+1),.int .i64 R] 170)).trans (f2.mono fun b _ h=>by rcases h with h|h;exact h▸HS.out.om;exact h▸HS.out.od) (fun _ _ h=>h))),.inr ⟨rfl,by
     rw[←HS.out.dk]
     exact(hfell.later (Ag.refl _ _) (by simp) (fun h=>h) rfl (fun _ h=>.inl h))⟩⟩
    clear HR2 hfell f2 ca c1 c2 c4 hl hge HFl
    go_wp2
    go_ret
    exact⟨20,rfl,HE⟩
   clear HR2
   have HS2:=zhd HS2'
   have hb2:w2.heap[w.heap.size]?=some (.cells #[.int .u64 (N+1),.int .i64 R] 170 (0,0)):=f2.blk (heap_alloc_new w.drew _) (fun k=>k.elim (fun k=>absurd (show w.heap.size=m from k) (by omega)) (fun k=>absurd (show w.heap.size=d from k) (by omega)))
   have HB2:=zhd hb2
   have k0:=z2k hb2 0 rfl
   have k1:=z2k hb2 1 rfl
   have k2:=z2k HS2'.blk 2 rfl
   have HF2:=zhd (((Fr.refl (fun b=>b=m∨b=d) w).drew.alloc (.cells #[.int .u64 (N+1),.int .i64 R] 170)).trans f2 (fun _ _ h=>h))
   have hm2:(N+1).tmod 2=(((S.num+1) % 2:Nat):Int):=by rw[Int.tmod_eq_emod_of_nonneg (by omega)];have:=HN1.out;omega
   have hi2:IntKind.i64.wrap (((S.num+1) % 2:Nat):Int)=(((S.num+1) % 2:Nat):Int):=by rw[IntWalk.i64_in _ (by omega)]
   have HI:=zhd (show IntKind.i64.wrap ((N+1).tmod 2)=(((S.num+1) % 2:Nat):Int) by rw[hm2,hi2])
   clear hm2 hi2
   clear HS2' f2 hb2 HFl ca c1 c2 c4 hl hge
   have hcz:c w.heap.size=0:=HC.out _ (Nat.le_refl _)
   have hc0:¬(c w.heap.size=r∧w.heap.size≠st):=fun k=>HR0.out (k.1.symm.trans hcz)
   have hs2:=HF2.out.size
   go_wp2_with fail
   have hnn9:=zhd hnn
   clear hnn
   generalize decide ((4611686018427387904:Int)≤N)=B
   refine z1z (Fr (fun b=>c b=r∧b≠st) w2) [] (by kernel_rfl) ?_
   have hSw0:(Fr (fun b=>c b=r∧b≠st) w2) _:=(Fr.refl (fun b=>c b=r∧b≠st) w2).drew
   refine tk 0 hSw0 ?_
   refine tk 1 hSw0 ?_
   refine tk 2 hSw0 ?_
   refine tk 3 hSw0 ?_ (hy:=by intro w_ hS_;have j0:=hS_.cell k0 hc0;have j1:=hS_.cell k1 hc0;have j2:=hS_.cell k2 (fun h=>h.2 rfl);first|(go_simp;done)|(go_simp;with_reducible rfl))
   refine tk 4 hSw0 ?_
   refine tk 5 hSw0 ?_ (hy:=by intro w_ hS_;have j0:=hS_.cell k0 hc0;have j1:=hS_.cell k1 hc0;have j2:=hS_.cell k2 (fun h=>h.2 rfl);first|(go_simp;done)|(go_simp;with_reducible rfl))
   refine tk 6 hSw0 ?_
   refine tk 7 hSw0 ?_
   refine tk 8 hSw0 ?_ (hy:=by intro w_ hS_;have j0:=hS_.cell k0 hc0;have j1:=hS_.cell k1 hc0;have j2:=hS_.cell k2 (fun h=>h.2 rfl);first|(go_simp;done)|(go_simp;with_reducible rfl))
   refine one_ 9 rfl (fun K hK=>?_)
   go_simp
   refine(HH.out _).mono ?_
   rintro e w3 ⟨v3,rfl,f3,o3⟩
   simp only[]
   have HF3:=zhd ((show Fr _ w2 _ from hSw0).trans0 f3)
   have HF30:=zhd ((Fr.refl C0 w2).drew.trans0 f3)
   have HV3:Hid (BytesAt (Dt c) w3 v3 (headB (S.num+1) root)):=zhd (BytesAt.ofOwn (by rw[z4k];exact o3) (fun b hb=>by have:=(o3.lt b hb).1;exact HC.out b (by have:w2.drew.heap.size=w2.heap.size:=rfl;omega)))
   clear f3 o3
   refine hK.out _ _ ?kS3 (fun hSw1=>?kR3)
   case kS3=>exact HF3.out
   clear hK K
   try simp only[Act.put,zs1,zs2,zs3]
   refine one_ 10 rfl (fun K hK=>?_)
   go_simp
   rw[HI.out]
   have hs3:=HF30.out.size
   refine(z5l (HS2.out.fr0 HF30.out) (by rw[z5m];exact HAL.out.down) HR0.out (HC.out.mono (by omega)) (k:=(S.num+1) % 2) (by rw[z5o];show(S.num+1) % 2<D.blocks;rw[HAL.out.size];omega) HV3.out (by rw[z4k];omega) (by simp[DSt.flush])).mono ?_
   rintro e w4 ⟨err4,rfl,HR4⟩
   simp only[]
   have HF4:=zhd (HF3.out.trans HR4.out.1 (fun b _ h=>h))
   refine hK.out _ _ ?kS4 (fun hSw2=>?kR4)
   case kS4=>exact HF4.out
   clear hK K
   try simp only[Act.put,zs1,zs2,zs3]
   refine tk 11 hSw2 ?_
   refine z1y (by kernel_rfl) ?_ _
   obtain⟨-,(⟨rfl,c4,ov4,ag4,cl4,s4,-⟩|⟨rfl,hfell⟩)⟩:=HR4.out
   case inr=>
    have HE:Hid (SComR c r w st root S D 20 w4):=zhd ⟨(HF2.out.mono (C2:=fun b=>c b=r) (fun b _ h=>by rcases h with h|h;exact h▸HS.out.om;exact h▸HS.out.od)).trans (HF4.out.mono (fun _ _ h=>h.1)) (fun _ _ h=>h),.inr ⟨rfl,by
     rw[←HS.out.dk]
     exact(hfell.later (Ag.refl _ _) (by have:=HF2.out.size;have:=HF30.out.size;omega) (fun h=>by rw[z5n];exact z55 h) (by rw[z5o];rfl) (fun _ h=>.inr (.inl h)))⟩⟩
    clear HR4 hfell k0 k1 k2
    go_wp2
    go_ret
    exact⟨20,rfl,HE⟩
   have HA4:=zhd ag4
   have HC4:=zhd cl4
   have HS4:=zhd s4
   clear ag4 cl4 s4 HR4
   have cst:=z2k HS4.out.blk 2 rfl
   have HFl2:=zhd (z5k HS4.out (show D.tick.flush.down=false by rw[z5m];exact HAL.out.down) HR0.out HC4.out)
   go_wp2_with fail
   refine HFl2.out.mono ?_
   rintro e w5 ⟨err5,rfl,HR5⟩
   obtain⟨f5,(⟨rfl,HS5'⟩|⟨rfl,hfell⟩)⟩:=HR5.out
   case inr=>
    have HE:Hid (SComR c r w st root S D 20 w5):=zhd ⟨((HF2.out.mono (C2:=fun b=>c b=r) (fun b _ h=>by rcases h with h|h;exact h▸HS.out.om;exact h▸HS.out.od)).trans (HF4.out.mono (fun _ _ h=>h.1)) (fun _ _ h=>h)).trans (f5.mono (C2:=fun b=>c b=r) fun b _ h=>by rcases h with h|h;exact h▸HS.out.om;exact h▸HS.out.od) (fun _ _ h=>h),.inr ⟨rfl,by
     rw[←HS.out.dk]
     exact(hfell.later (fun b hb=>HA4.out b (by have:=HF2.out.size;have:=HF30.out.size;omega)) (by have:=HF2.out.size;have:=HF4.out.size;omega) (fun h=>by show(D.tick.flush.tick).after<1;exact z55 (by rw[z5n];exact z55 h)) (by show D.tick.flush.blocks=_;rw[z5o];rfl) (fun _ h=>.inr (.inr h)))⟩⟩
    clear HR5 hfell k0 k1 k2 cst
    go_wp2
    go_ret
    exact⟨20,rfl,HE⟩
   clear HR5
   have HS5:=zhd HS5'
   have F25:=zhd (HF4.out.trans f5 (fun b hb h=>h.elim (fun e=>by subst e;exact⟨HS.out.om,HS.out.st_m.symm⟩) (fun e=>by subst e;exact⟨HS.out.od,HS.out.st_d.symm⟩)))
   have f25sz:=f5.size
   clear HFl2 cst HS5' f5
   have m0:=F25.out.cell k0 hc0
   have m1:=F25.out.cell k1 hc0
   have m4:=z2k HS5.out.blk 4 rfl
   have m5:=z2k HS5.out.blk 5 rfl
   have z4:=z2i 4 HS5.out.blk
   have z5:=z2i 5 HS5.out.blk
   have b6:=z2j (i:=5) (z2j (i:=4) HS5.out.blk (.int .u64 (N+1))) (.int .i64 R)
   have F6:=zhd (((Fr.refl (fun b=>b=st) w5).setCell (p:=⟨st,4,none⟩) (.inr rfl) (.int .u64 (N+1))).setCell (p:=⟨st,5,none⟩) (.inr rfl) (.int .i64 R))
   have hs5:=HS5.out
   have HS6:=zhd (z5j (S:={ S with num:=S.num+1,root:=root }) ⟨by
    rw[show((S.num+1:Nat):Int)=N+1 from by have:=HN1.out;omega,←HRR.out];exact b6,hs5.map.fr F6.out hs5.st_sm.symm,hs5.disk.fr F6.out hs5.st_d.symm hs5.st_m.symm (fun b hb=>by simp[Value.ownBlock] at hb) (fun b hb e=>HR0.out (by subst e;exact hs5.ost.symm.trans hb)),hs5.ost,hs5.osm,hs5.od,hs5.om,hs5.oov,hs5.ne,hs5.dk⟩ HR0.out)
   clear b6 hs5
   go_wp2_with fail
   refine HS6.out.mono ?_
   rintro e w7 ⟨rfl,s7,f7⟩
   have HS7:=zhd s7
   have HF7:=zhd f7
   clear s7 f7 m0 m1 m4 m5 z4 z5
   go_wp2
   go_ret
   have hs4:=HF4.out.size
   have hs7:=HF7.out.size
   have hs25:=F25.out.size
   have hs6:=F6.out.size
   have hcl:=HC4.out.mono (show w4.heap.size≤w7.heap.size by have:=f25sz;omega)
   refine⟨0,rfl,zhd ⟨?_,.inl ⟨rfl,c4,fun b hb=>HA4.out b (by omega),hcl,⟨sm,d,m,_,HS7.out⟩⟩⟩⟩
   refine(HF2.out.mono (fun b _ h=>?_)).trans (((F25.out.mono (fun b _ h=>h.1)).trans (F6.out.mono (C2:=fun b=>c b=r) (fun b _ h=>?_)) (fun _ _ h=>h)).trans (HF7.out.mono (C2:=fun b=>c b=r) (fun b _ h=>?_)) (fun _ _ h=>h)) (fun _ _ h=>h)
   · rcases h with h|h
     · rw[h];exact HS.out.om
     · rw[h];exact HS.out.od
   · rw[h];exact HS.out.ost
   · rw[h];exact HS.out.osm
end
section
set_option maxHeartbeats 400000
theorem z5s (v:Value) (w:World):(Instr.typeAssert (.iface 3 v) 20 3 true).run Tryz.prog w=.ok (.tuple #[v,.bool true]) w:=by kernel_rfl
theorem z5t (v:Value) (w:World):(Instr.typeAssert (.iface 220 v) 20 3 true).run Tryz.prog w=.ok (.tuple #[.int .i64 0,.bool false]) w:=by kernel_rfl
theorem z5u (v:Value) (w:World):(Instr.typeAssert (.iface 194 v) 20 3 true).run Tryz.prog w=.ok (.tuple #[.int .i64 0,.bool false]) w:=by kernel_rfl
theorem z5v (v:Value) (w:World):(Instr.typeAssert (.iface 220 v) 20 220 true).run Tryz.prog w=.ok (.tuple #[v,.bool true]) w:=by kernel_rfl
theorem z5w (v:Value) (w:World):(Instr.typeAssert (.iface 194 v) 20 220 true).run Tryz.prog w=.ok (.tuple #[.pointer none,.bool false]) w:=by kernel_rfl
theorem z5x (v:Value) (w:World):(Instr.typeAssert (.iface 220 v) 20 194 true).run Tryz.prog w=.ok (.tuple #[.pointer none,.bool false]) w:=by kernel_rfl
theorem z5y (v:Value) (w:World):(Instr.typeAssert (.iface 3 v) 20 194 true).run Tryz.prog w=.ok (.tuple #[.pointer none,.bool false]) w:=by kernel_rfl
theorem z5z (v:Value) (w:World):(Instr.typeAssert (.iface 194 v) 20 194 true).run Tryz.prog w=.ok (.tuple #[v,.bool true]) w:=by kernel_rfl
theorem ta_inner_inner' (v:Value) (w:World):(Instr.typeAssert (.iface 194 v) 20 194 false).run Tryz.prog w=.ok v w:=by kernel_rfl
theorem ta_leaf_leaf' (v:Value) (w:World):(Instr.typeAssert (.iface 220 v) 20 220 false).run Tryz.prog w=.ok v w:=by kernel_rfl
attribute [go_sem] z5s z5t z5u z5v z5w z5x z5y z5z ta_inner_inner' ta_leaf_leaf'
theorem z60 (id:Int) (w:World) :
 Calls Tryz.prog 112 #[.iface 3 (.int .i64 id)] w fun e w'=>e=.returned (.int .i64 id)∧w=w':=by
 go_enter Tryz.func112,Tryz.ntmps112
 go_wp2
 go_ret
 exact⟨rfl,rfl⟩
theorem z61 (b:Nat) (id:Int) (w:World) (h:w.cell? ⟨b,0,none⟩=some (.int .i64 id)) :
 Calls Tryz.prog 112 #[.iface 220 (.pointer (some ⟨b,0,none⟩))] w fun e w'=>e=.returned (.int .i64 id)∧w=w':=by
 go_enter Tryz.func112,Tryz.ntmps112
 go_wp2
 go_ret
 exact⟨rfl,rfl⟩
theorem z62 (b:Nat) (id:Int) (w:World) (h:w.cell? ⟨b,0,none⟩=some (.int .i64 id)) :
 Calls Tryz.prog 112 #[.iface 194 (.pointer (some ⟨b,0,none⟩))] w fun e w'=>e=.returned (.int .i64 id)∧w=w':=by
 go_enter Tryz.func112,Tryz.ntmps112
 go_wp2
 go_ret
 exact⟨rfl,rfl⟩
theorem z63 (b:Nat) (v:Value) (w:World) (h:w.cell? ⟨b,1,none⟩=some v) :
 Calls Tryz.prog 114 #[.iface 220 (.pointer (some ⟨b,0,none⟩))] w fun e w'=>e=.returned v∧w=w':=by
 go_enter Tryz.func114,Tryz.ntmps114
 go_wp2
 go_ret
 exact⟨rfl,rfl⟩
theorem z64 (b:Nat) (v:Value) (w:World) (h:w.cell? ⟨b,1,none⟩=some v) :
 Calls Tryz.prog 114 #[.iface 194 (.pointer (some ⟨b,0,none⟩))] w fun e w'=>e=.returned v∧w=w':=by
 go_enter Tryz.func114,Tryz.ntmps114
 go_wp2
 go_ret
 exact⟨rfl,rfl⟩
end
end Go.Proofs.YtidalepbkljkpaaGreat
namespace Go.H
section
open Go.RowKit
def bcmp:List UInt8→List UInt8→Int
 |[],[]=>0
 |[],_::_=>-1
 |_::_,[]=>1
 |a::az,b::bs=>if a<b then -1 else if b<a then 1 else bcmp az bs
theorem z65 {P:Program} {w:World} (g:Nat):∀(l:List UInt8) (o:Nat) (acc:ByteArray),(∀j (h:j<l.length),w.cell? ⟨g,o+j,none⟩=some (bv l[j]))→
 (Extern.Bytes.loadBytes ⟨g,o,none⟩ l.length acc).run P w=.ok ⟨acc.data++l.toArray⟩ w
 |[],o,acc,_=>by simp[Extern.Bytes.loadBytes]
 | x :: l, o, acc, h => by
   have h0:w.cell? ⟨g,o,none⟩=some (bv x):=h 0 (Nat.zero_lt_succ _)
   have ih:=z65 (P:=P) (w:=w) g l (o+1) (acc.push x) (fun j hj=>by
    have:=h (j+1) (Nat.succ_lt_succ hj)
    rw[show o+1+j=o+(j+1) by omega]
    exact this)
   have ha:(⟨g,o,none⟩:Addr).add 1=⟨g,o+1,none⟩:=rfl
   simp only[List.length_cons,Extern.Bytes.loadBytes]
   simp[load,Sem.run,bind,Sem.bind,h0,bv,ha]
   have:=ih
   simp only[bv] at *
   rw[this]
   simp[ByteArray.push]
theorem z66 {P:Program} {F:Nat→Prop} {w:World} {v:Value} {l:List UInt8} (h:BytesAt F w v l) :
 (Extern.Bytes.bytesOf v).run P w=.ok ⟨l.toArray⟩ w:=by
 obtain⟨A,c,rfl,h1,h2,h3⟩:=h
 cases l with
 | nil =>
   cases A with
   |none=>rfl
   |some a=>simp[Extern.Bytes.bytesOf,Extern.Bytes.loadBytes];rfl
 | cons x l =>
   obtain⟨g,o,rfl,hF,hc⟩:=h3 (by simp)
   have:=z65 (P:=P) (w:=w) g (x::l) o .empty hc
   simp only[Extern.Bytes.bytesOf]
   rw[this]
   simp
theorem z67 (l:List UInt8) (i:Nat):(⟨l.toArray⟩:ByteArray)[i]! = l.getD i 0:=by
 rw[getElem!_def,List.getD_eq_getElem?_getD]
 by_cases h:i<l.length
 · rw[getElem?_pos (⟨l.toArray⟩:ByteArray) i (by simpa [ByteArray.size] using h),List.getElem?_eq_getElem h]
   rfl
 · rw[getElem?_neg (⟨l.toArray⟩:ByteArray) i (by simpa [ByteArray.size] using h),List.getElem?_eq_none (by omega)]
   rfl
def cmpL (a b:List UInt8):Int:=
 match (List.range (min a.length b.length)).find? fun i=>a.getD i 0 != b.getD i 0 with
 |some i=>if a.getD i 0<b.getD i 0 then -1 else 1
 |none=>if a.length<b.length then -1 else if a.length>b.length then 1 else 0
theorem z68:∀(a b:List UInt8),cmpL a b=bcmp a b
 |[],[]=>by simp[cmpL,bcmp]
 |[],b::bs=>by simp[cmpL,bcmp]
 |a::az,[]=>by simp[cmpL,bcmp]
 | a :: az, b :: bs => by
   have ih:=z68 az bs
   unfold bcmp
   rw[←ih]
   unfold cmpL
   simp only[List.length_cons,Nat.add_min_add_right,List.range_succ_eq_map,List.find?_cons,List.getD_cons_zero]
   by_cases h:a=b
   · subst h
     have hlt:¬a<a:=UInt8.lt_irrefl a
     simp only[bne_self_eq_false,hlt,if_false,List.find?_map,Function.comp_def,Nat.succ_eq_add_one,List.getD_cons_succ]
     cases h:List.find? (fun i=>az.getD i 0 != bs.getD i 0) (List.range (min az.length bs.length)) with
     |none=>simp
     |some i=>simp
   · have hne:(a != b)=true:=by simpa using h
     simp only[hne]
     by_cases hl:a<b
     · simp[hl]
     · have:b<a:=by
        rcases Nat.lt_trichotomy a.toNat b.toNat with h1|h1|h1
        · exact absurd (UInt8.lt_iff_toNat_lt.2 h1) hl
        · exact absurd (UInt8.toNat_inj.1 h1) h
        · exact UInt8.lt_iff_toNat_lt.2 h1
       simp[hl,this]
theorem z69 (a b:List UInt8):Extern.BytealgCompare.cmp ⟨a.toArray⟩ ⟨b.toArray⟩=bcmp a b:=by
 rw[←z68]
 unfold Extern.BytealgCompare.cmp cmpL
 simp only[z67]
 rfl
theorem z6a {P:Program} {F:Nat→Prop} {w:World} {u v:Value} {a b:List UInt8} (ha:BytesAt F w u a) (hb:BytesAt F w v b) :
 (Extern.BytealgCompare.compare #[u,v]).run P w=.ok (.int .i64 (bcmp a b)) w:=by
 show(Sem.run P (do pure (goInt (Extern.BytealgCompare.cmp (←Extern.Bytes.bytesOf u) (←Extern.Bytes.bytesOf v)))) w)=_
 simp only[Sem.run_bind,z66 ha,z66 hb,Result.andThen_ok,Sem.run_pure,goInt,z69]
end
section
def findL (key:List UInt8):List KV→Nat×Bool
 |[]=>(0,false)
 |x::l=>if bcmp key x.1≤0 then(0,bcmp key x.1 == 0) else((findL key l).1+1,(findL key l).2)
def AllGt (key:List UInt8) (l:List KV) (k:Nat):Prop:=∀j (h:j<l.length),j<k→0<bcmp key l[j].1
theorem z6b (key:List UInt8):∀(l:List KV) (k:Nat) (h:k<l.length),AllGt key l k→bcmp key l[k].1≤0→findL key l=(k,bcmp key l[k].1 == 0)
 |[],k,h,_,_=>by simp at h
 | x :: l, 0, h, _, hle => by
   have:bcmp key x.1≤0:=hle
   simp[findL,this]
 | x :: l, k + 1, h, ha, hle => by
   have h0:0<bcmp key x.1:=ha 0 (by simp) (by omega)
   have ih:=z6b key l k (by simpa using h) (fun j hj hk=>ha (j+1) (by simpa using hj) (by omega)) hle
   simp only[findL,if_neg (show ¬bcmp key x.1≤0 by omega),ih]
   rfl
theorem z6c (key:List UInt8):∀(l:List KV),AllGt key l l.length→findL key l=(l.length,false)
 |[],_=>rfl
 | x :: l, ha => by
   have h0:0<bcmp key x.1:=ha 0 (by simp) (by simp)
   have ih:=z6c key l (fun j hj _=>ha (j+1) (by simpa using hj) (by simpa using hj))
   simp only[findL,if_neg (show ¬bcmp key x.1≤0 by omega),ih]
   rfl
theorem z6d {key:List UInt8} {l:List KV} {k:Nat} (h:AllGt key l k) (hk:k<l.length) (hg:0<bcmp key l[k].1):AllGt key l (k+1):=by
 intro j hj hlt
 by_cases e:j=k
 · subst e;exact hg
 · exact h j hj (by omega)
end
end Go.H
