import Derived.Test.YtidalepbkljkpaaGreatLocalFull45
import Derived.Test.YtidalepbkljkpaaGreatLocalFull42
import Derived.Test.YtidalepbkljkpaaGreatLocalFull43
import Derived.Test.YtidalepbkljkpaaGreatLocalFull32
import Derived.Lib.SmallJoins
set_option linter.all false
namespace Go.Proofs.YtidalepbkljkpaaGreat
open Go.RowKit Go.H
set_option maxHeartbeats 1000000
set_option maxRecDepth 100000
section
structure LSt (w0:World) (pn d sp:Nat) (La:List KV) (pos N:Nat) (c:Nat→Nat) (w:World):Prop where
 fr:Fr C0 w0 w
 ag:Ag w0.heap.size (fun _=>0) c
 ex:∃tp Z,LocAt c w sp tp Z pos∧rootL Z.now=La∧Z.last=Z.now∧Z.back=[]∧Z.S.pages=pn∧Z.S.num=N∧Z.S.dk=d∧Z.D.after<1
variable {w0 w w' : World} {pn d sp pos N : Nat} {La : List KV} {c c' : Nat → Nat}
theorem LSt.fr0 (h:LSt w0 pn d sp La pos N c w) (hf:Fr C0 w w'):LSt w0 pn d sp La pos N c w':=by
 obtain⟨a,b,tp,Z,l,r⟩:=h
 exact⟨a.trans0 hf,b,tp,Z,l.fr0 hf,r⟩
theorem LSt.cl (h:LSt w0 pn d sp La pos N c w):Cl w c:=by
 obtain⟨a,b,tp,Z,l,r⟩:=h
 exact l.cl
theorem zil {w0 w w1:World} {c:Nat→Nat} (f0:Fr C0 w0 w) (ag:Ag w0.heap.size (fun _=>0) c) (f:Fr (OwnL c) w w1):Fr C0 w0 w1:=f0.trans f (fun b hb e=>by
 have e':c b=1∨c b=2∨c b=3∨c b=7:=e
 have h0:c b=0:=ag b hb
 omega)
def ApRes (w0:World) (pn d sp:Nat) (La:List KV) (pos N:Nat) (c:Nat→Nat) (w:World) (l:List Chg) (np:Int) (err:Nat) (w':World):Prop:=
 (np < pos ∧ err = 1 ∧ Fr C0 w w') ∨ (¬ np < pos ∧ ((chkL l ≠ 0 ∧ err = chkL l ∧ Fr C0 w w') ∨
  (chkL l=0∧∃c',Ag w.heap.size c c'∧Fr (OwnL c) w w'∧((err=21∧LSt w0 pn d sp La pos N c' w'∧pn<2*La.length+l.length+1)∨(err=0∧LSt w0 pn d sp (appL La l np.toNat) np.toNat (N+1) c' w')))))
theorem zim {lv:Value} {l:List Chg} {np:Int} (h:LSt w0 pn d sp La pos N c w) (hl:ChgR (fun b=>b<w.heap.size∧¬OwnL c b) (fun b=>b<w.heap.size∧c b=0) w lv l) (hn:l.length≤1000) (hb:La.length≤80000) (hN:N<1000000) (hnp:np<9223372036854775808) :
 Calls Tryz.prog 24 #[.pointer (some ⟨sp,0,none⟩),.int .i64 np,lv] w fun e w'=>∃err:Nat,e=.returned (.int .i64 (err:Int))∧Hid (ApRes w0 pn d sp La pos N c w l np err w'):=by
 obtain⟨f0,ag0,tp,Z,hloc,rfl,e1,e2,e3,e4,e5,e6⟩:=h
 have HD:=zhd hloc.dead
 have c0:=hloc.c0
 have c1:=hloc.c1
 have HCK:=zhd (fun (w_:World) (hf:Fr C0 w w_)=>zic (hl.fr0 hf))
 have HCH:=zhd (fun (w_:World) (hf:Fr C0 w w_) (hok:∀x∈l,okC x) (np2:Nat) (h2:np2<9223372036854775808)=>zih (pos:=np2) (hloc.fr0 hf) e1 e2 ((hl.fr0 hf).mono (fun b hb _=>⟨by have:=hf.size;omega,hb.2⟩) (fun b hb _=>⟨by have:=hf.size;omega,hb.2⟩)) hok hn hb h2 (by omega) e6)
 have hst:Z.S.state.length≤(rootL Z.now).length:=by
  have:=zeo hloc.t e2
  rwa [e1] at this
 have HST:=zhd hst
 have F0:=zhd f0
 have AG0:=zhd ag0
 have E:=zhd (show Z.S.pages=pn∧Z.S.num=N∧Z.S.dk=d∧Z.back=[] from⟨e3,e4,e5,e2⟩)
 obtain⟨A,cp,rfl,-⟩:=hl.form
 have HNP:=zhd hnp
 clear hnp
 clear hloc hl f0 ag0 e1 e2 e3 e4 e5 e6 hst
 go_enter Tryz.func24,Tryz.ntmps24
 go_wp2_with fail
 refine HD.out.mono ?_
 rintro e w1 ⟨rfl,hw1⟩
 have F1:=zhd (show Fr C0 w w1 from by rw[hw1];exact(Fr.refl _ w).drew)
 clear hw1 HD
 have d1:=F1.out.cell0 c1
 clear c0 c1
 by_cases hp:np<(pos:Int)
 · go_wp2_with fail
   go_ret
   exact⟨1,rfl,zhd (.inl ⟨hp,rfl,F1.out⟩)⟩
 · have HCK1:=zhd (HCK.out _ F1.out)
   obtain⟨r,hr⟩:∃r,r=chkL l:=⟨_,rfl⟩
   rw[←hr] at HCK1
   have HR:=zhd hr
   clear HCK hr
   by_cases h0:r=0
   · have HR2:Hid (chkL l=0):=zhd (by rw[←HR.out];exact h0)
     clear HR
     subst h0
     have HOK:Hid (∀x∈l,okC x):=zhd (zfn HR2.out)
     obtain⟨n2,rfl⟩:∃n2:Nat,np=(n2:Int):=⟨np.toNat,by omega⟩
     have HP:=zhd hp
     have hnn:¬n2<pos:=by omega
     clear hp
     have hp2:((n2:Int)<(pos:Int))=False:=by simp[hnn]
     clear hnn
     go_wp2_with fail
     refine HCK1.out.mono ?_
     rintro e w2 ⟨rfl,f2⟩
     have F2:=zhd (F1.out.trans0 f2)
     have HC2:=zhd (HCH.out _ F2.out HOK.out n2 (by have:=HNP.out;omega))
     clear HCK1 HCH f2 d1
     go_wp2_with fail
     refine HC2.out.mono ?_
     rintro e w3 ⟨err,rfl,H3⟩
     go_wp2_with fail
     go_ret
     obtain⟨c3,Z3,ag3,f3,g1,g2,g3,g4,g5,g6,hh⟩:=H3.out
     have hs2:=F2.out.size
     have hag:Ag w.heap.size c c3:=fun b hb=>ag3 b (by omega)
     have hff:Fr (OwnL c) w w3:=(F2.out.mono (C2:=OwnL c) (fun _ _ e=>e.elim)).trans f3 (fun b hb e=>e)
     have hs0:=F0.out.size
     have hf0:=zil F0.out AG0.out hff
     have hag0:Ag w0.heap.size (fun _=>0) c3:=fun b hb=>(hag b (by omega)).trans (AG0.out b hb)
     rcases hh with⟨rfl,k1,k2,k3,k4⟩|⟨rfl,k1,k2,k3⟩
     · refine⟨21,rfl,zhd (.inr ⟨by have:=HP.out;omega,.inr ⟨HR2.out,c3,hag,hff,.inl ⟨rfl,⟨hf0,hag0,tp,Z3,k1,k2,g1,g2.trans E.out.2.2.2,g4.trans E.out.1,k3.trans E.out.2.1,g5.trans E.out.2.2.1,g6⟩,by have:=HST.out;have:=E.out.1;omega⟩⟩⟩)⟩
     · refine⟨0,rfl,zhd (.inr ⟨by have:=HP.out;omega,.inr ⟨HR2.out,c3,hag,hff,.inr ⟨rfl,⟨hf0,hag0,tp,Z3,k1,k2,g1,g2.trans E.out.2.2.2,g4.trans E.out.1,by rw[k3,E.out.2.1],g5.trans E.out.2.2.1,g6⟩⟩⟩⟩)⟩
   · have hr1:((r:Int) != 0)=true:=by simp[bne,z32];omega
     clear HCH
     go_wp2_with fail
     refine HCK1.out.mono ?_
     rintro e w2 ⟨rfl,f2⟩
     have F2:=zhd (F1.out.trans0 f2)
     clear f2 HCK1
     go_wp2_with fail
     go_ret
     exact⟨r,rfl,zhd (.inr ⟨by omega,.inl ⟨by rw[←HR.out];exact h0,HR.out,F2.out⟩⟩)⟩
theorem zin (h:LSt w0 pn d sp La pos N c w):Calls Tryz.prog 26 #[.pointer (some ⟨sp,0,none⟩)] w fun e w'=>e=.returned (.int .i64 (pos:Int))∧w=w':=by
 obtain⟨f0,ag0,tp,Z,hloc,r⟩:=h
 have c1:=hloc.c1
 clear hloc r f0 ag0
 go_enter Tryz.func26,Tryz.ntmps26
 go_wp2_with fail
 go_ret
 exact⟨rfl,rfl⟩
theorem zio {s:Nat} (h:LSt w0 pn d sp La pos N c w) (hs:s<16):Calls Tryz.prog 44 #[.pointer (some ⟨sp,0,none⟩),.int .i64 (s:Int)] w fun e w'=>e=.returned (.int .i64 (cntS s La:Int))∧w=w':=by
 obtain⟨f0,ag0,tp,Z,hloc,rfl,r⟩:=h
 have c1:=z2k hloc.blk (2+s) (zhu hs)
 have h1:(s:Int)<16:=by omega
 clear hloc r f0 ag0
 go_enter Tryz.func44,Tryz.ntmps44
 go_wp2_with fail
 go_ret
 exact⟨rfl,rfl⟩
def expL (La:List KV):List KV:=rangeL [] [16] La
theorem zip {La:List KV} (h:∀x∈La,locKey x.1) {x:KV} (hx:x∈expL La):2≤x.1.length:=by
 unfold expL rangeL at hx
 obtain⟨h1,h2⟩:=List.mem_filter.1 hx
 rcases h x h1 with⟨s,m,-,h3,-,h4⟩|h4
 · rw[h4];unfold pk;rw[List.length_cons];omega
 · unfold inR at h2
   rw[h4,z6e] at h2
   simp at h2
theorem ziq (h:LSt w0 pn d sp La pos N c w) (hb:La.length≤80000) :
 Calls Tryz.prog 23 #[.pointer (some ⟨sp,0,none⟩)] w fun e w'=>∃A cp,e=.returned (.tuple #[.slice A (expL La).length cp,.int .i64 (pos:Int),.int .i64 0])∧Hid (Fr C0 w w'∧OutS w.heap.size w' (.slice A (expL La).length cp) ((expL La).map spK)):=by
 obtain⟨f0,ag0,tp,Z,hloc,rfl,-⟩:=h
 have HD:=zhd hloc.dead
 have c0:=hloc.c0
 have c1:=hloc.c1
 have HK:=zhd (fun (x:KV) (hx:x∈expL (rootL Z.now))=>zip hloc.ok.keys hx)
 have hcl:=hloc.cl
 obtain⟨q,hq1,hq2,hq3,hq4⟩:=zbp hcl 1 2
 have hq5:q≠0:=hq2
 have HR:=zhd (fun (w_:World) (kv:Value) (hf:Fr C0 w w_) (hk:BytesAt (fun b=>w.heap.size≤b) w_ kv [16])=>zeq (n:=1073741824) hq2 hq3 hq4 hq1 (by omega) (hloc.fr0 hf).t (nilB (F:=Dt c)) (hk.mono (fun b hb _=>hcl b hb)) (by simp) (by simp))
 have hl2:(rangeL [] [16] (rootL Z.now)).length≤80000:=by
  have:(rangeL [] [16] (rootL Z.now)).length≤(rootL Z.now).length:=List.length_filter_le _ _
  omega
 have HT:Hid ((rangeL [] [16] (rootL Z.now)).take 1073741824=expL (rootL Z.now)):=zhd (List.take_of_length_le (by omega))
 clear hloc f0 ag0 hq1 hq2 hq3 hq4 hl2
 go_enter Tryz.func23,Tryz.ntmps23
 go_wp2_with fail
 refine HD.out.mono ?_
 rintro e w1 ⟨rfl,hw1⟩
 have F1:=zhd (show Fr C0 w w1 from by rw[hw1];exact(Fr.refl _ w).drew)
 have hs1:w1.heap.size=w.heap.size:=by rw[hw1];rfl
 have FA:=zhd (F1.out.alloc (.cells #[.int .u8 16] 5))
 have hb16:BytesAt (fun b=>w.heap.size≤b) (w1.alloc (.cells #[.int .u8 16] 5)) (.slice (some ⟨w1.heap.size,0,none⟩) 1 1) [16]:=z0i.2 (Row.ofBlock (n:=1) (size:=1) (heap_alloc_new w1 _) (by omega) (by unfold maxLen;omega) rfl)
 have HR1:=zhd (HR.out _ _ FA.out hb16)
 have d0:=F1.out.cell0 c0
 clear hw1 HD hb16 hs1 HR
 go_wp2_with fail
 refine HR1.out.mono ?_
 rintro e w2 ⟨f2,v2,c2,rfl,-,-,o2⟩
 rw[HT.out] at o2
 obtain⟨A2,p2,rfl,-⟩:=o2.form
 have F2:=zhd (FA.out.trans0 f2)
 have hsa:=FA.out.size
 obtain⟨xs,oa,ob,oc,-⟩:=o2
 have HS:=zhd (fun (w_:World) (hf:Fr C0 w2 w_)=>zik (N:=w.heap.size) (z0m (z0n oa (fun b e=>by have:=(oc b e).2;omega)) hf (fun _ _ e=>e)) ((ob.fr hf (fun _ _ e=>e)).mono (fun b hb _=>⟨by have:=hb.2;omega,fun e=>by have h1:=(oc b e).1;rw[hb.1] at h1;exact hq5 h1.symm⟩)) HK.out)
 have HOC:=zhd (fun b (e:(Value.slice A2 (expL (rootL Z.now)).length p2).ownBlock=some b)=>(show w.heap.size≤b by have:=(oc b e).2;omega))
 have d1:=F2.out.cell0 c1
 have hspl:=World.block_lt_of_cell? w _ c1
 clear f2 oa ob oc HR1 d0 c0 c1
 go_wp2_with fail
 refine z1z (Fr (fun b=>(Value.slice A2 (expL (rootL Z.now)).length p2).ownBlock=some b) w2) [] (by kernel_rfl) ?_
 have hSw0:(Fr (fun b=>(Value.slice A2 (expL (rootL Z.now)).length p2).ownBlock=some b) w2) _:=(Fr.refl _ w2).drew
 refine tk 0 hSw0 ?_
 refine tk 2 hSw0 ?_
 refine tk 3 hSw0 ?_
 refine tk 4 hSw0 ?_
 refine tk 5 hSw0 ?_ (hy:=by intro w_ hS_;have b1:=hS_.cell d1 (fun e=>by have h9:=HOC.out _ e;simp at h9 hspl;omega);first|(go_simp;done)|(go_simp;with_reducible rfl))
 refine one_ 1 rfl (fun K hK=>?_)
 go_simp
 refine(HS.out _ (Fr.refl C0 w2).drew).mono ?_
 rintro e w3 ⟨rfl,H3⟩
 simp only[]
 refine hK.out _ _ ?kS1 (fun hSw1=>?kR1)
 case kS1=>exact(Fr.refl _ w2).drew.trans H3.out.1 (fun _ _ e=>e)
 clear hK K
 try simp only[Act.put,zs1,zs2,zs3]
 refine tk 6 hSw1 ?_
 refine tk 7 hSw1 ?_
 refine tk 8 hSw1 ?_
 refine z1y (by kernel_rfl) ?_ _
 go_wp2_with fail
 go_ret3
 exact⟨_,_,rfl,zhd ⟨F2.out.drew.transO H3.out.1 (fun b e=>HOC.out b e),H3.out.2⟩⟩
end
section
variable {c c' : Nat → Nat} {w w' : World}
theorem zir {d m n:Nat} (hd:DiskA (Dt c) w d m (.slice none 0 0) (newD n)) (od:c d=1) (om:c m=1) (hc:Cl w c) (h1:3≤n) (h2:n≤4096) :
 Calls Tryz.prog 22 #[.pointer (some ⟨d,0,none⟩)] w fun e w'=>∃sp,e=.returned (.tuple #[.pointer (some ⟨sp,0,none⟩),.int .i64 0])∧Hid (Fr C0 w w'∧∃tp c',Ag w.heap.size c c'∧LocAt c' w' sp tp (TSt.empty (newD n) 0 d) 0):=by
 have HO:=zhd (zec (r:=1) (rn:=2) (rm:=3) (num:=0) (by exact⟨by omega,by omega,by omega,by omega,by omega,by omega⟩) hd od om (fun b hb=>by simp[Value.ownBlock] at hb) hc rfl h1 h2 (zeh n) rfl (zeg n) (by omega) (zdg (zef n)))
 clear hd od om hc
 go_enter Tryz.func22,Tryz.ntmps22
 go_wp2_with fail
 refine HO.out.mono ?_
 rintro e w1 ⟨f1,tp,c1,rfl,ag1,hle,ht⟩
 have F1:=zhd f1
 have A1:=zhd ag1
 obtain⟨c2,hc2⟩:∃c2:Nat→Nat,c2=fun b=>if b=w1.heap.size then 7 else c1 b:=⟨_,rfl⟩
 have cl1:Cl w1 c1:=by obtain⟨st,lm,km,nr,lr,gv,ov,sn,t⟩:=ht;exact t.cl
 have ag2:Ag w1.heap.size c1 c2:=fun b hb=>by
  rw[hc2]
  show(if b=w1.heap.size then 7 else c1 b)=c1 b
  rw[if_neg (by omega)]
 obtain⟨w2,hw2⟩:∃w2,w2=w1.alloc (.cells (LocCells tp 0 []) 91):=⟨_,rfl⟩
 have F2:Fr C0 w1 w2:=by rw[hw2];exact(Fr.refl C0 w1).alloc _
 have hb2:w2.heap[w1.heap.size]?=some (.cells (LocCells tp 0 []) 91 (0,0)):=by rw[hw2];exact heap_alloc_new w1 _
 have hs2:w2.heap.size=w1.heap.size+1:=by rw[hw2];simp
 have cl2:Cl w2 c2:=fun b hb=>by
  rw[hc2]
  show(if b=w1.heap.size then 7 else c1 b)=0
  rw[if_neg (by omega)]
  exact cl1 b (by omega)
 have e7:c2 w1.heap.size=7:=by rw[hc2];exact if_pos rfl
 have ht2:TreeAt c2 1 2 3 w2 tp (TSt.empty (newD n) 0 d) 0:=ht.moveC F2 ag2 cl2 (fun b e=>e.elim) (fun b e=>e.elim) (fun b e=>e.elim) (fun b e=>e.elim)
 have HL:Hid (LocAt c2 w2 w1.heap.size tp (TSt.empty (newD n) 0 d) 0):=zhd ⟨ht2,hb2,e7,LocOk.nil⟩
 obtain⟨q,hq1,hq2,hq3,hq4⟩:=zbp cl2 1 2
 have HR:=zhd (zeq (n:=1073741824) hq2 hq3 hq4 hq1 (by omega) ht2 (nilB (F:=Dt c2)) (nilB (F:=Dt c2)) (by simp) (by simp))
 have HF2:=zhd (f1.trans0 F2)
 have A2:Hid (Ag w.heap.size c c2):=zhd (fun b hb=>(ag2 b (by have:=f1.size;omega)).trans (ag1 b hb))
 have HW2:=zhd hw2
 clear hw2 F2 hb2 hs2 cl2 e7 ht2 hq1 hq2 hq3 hq4 HO f1 ag1 cl1 ag2 hc2 ht
 have hlc:LocCells tp 0 []=#[.pointer (some ⟨tp,0,none⟩),.int .i64 0,.int .i64 0,.int .i64 0,.int .i64 0,.int .i64 0,.int .i64 0,.int .i64 0,.int .i64 0,.int .i64 0,.int .i64 0,.int .i64 0,.int .i64 0,.int .i64 0,.int .i64 0,.int .i64 0,.int .i64 0,.int .i64 0]:=by rfl
 rw[hlc] at HW2
 clear hlc
 go_wp2_with fail
 rw[←HW2.out]
 refine HR.out.mono ?_
 rintro e w3 ⟨f3,v3,c3,rfl,-,-,o3⟩
 obtain⟨A3,p3,hv3,-⟩:=o3.form
 rw[show(rangeL [] [] (rootL (TSt.empty (newD n) 0 d).now)).take 1073741824=[] from rfl,List.length_nil] at hv3
 subst hv3
 have F3:=zhd f3
 clear f3 o3
 go_wp2_with fail
 refine wp_loop_rounds 1 ?_;rw[rounds_succ]
 go_wp2_with fail
 go_ret2
 exact⟨_,rfl,zhd ⟨HF2.out.trans0 F3.out,tp,c2,A2.out,HL.out.fr0 F3.out⟩⟩
end
section
variable {w0 w w' : World} {pn d sp pos N : Nat} {La : List KV} {c c' : Nat → Nat}
theorem zis {m n:Nat} (f0:Fr C0 w0 w) (ag0:Ag w0.heap.size (fun _=>0) c) (hd:DiskA (Dt c) w d m (.slice none 0 0) (newD n)) (od:c d=1) (om:c m=1) (hc:Cl w c) (h1:3≤n) (h2:n≤4096) :
 Calls Tryz.prog 22 #[.pointer (some ⟨d,0,none⟩)] w fun e w'=>∃sp,e=.returned (.tuple #[.pointer (some ⟨sp,0,none⟩),.int .i64 0])∧Hid (Fr C0 w w'∧∃c',Ag w.heap.size c c'∧LSt w0 (n-2) d sp [] 0 0 c' w'):=by
 refine(zir hd od om hc h1 h2).mono ?_
 rintro e w' ⟨sp,rfl,H⟩
 obtain⟨f,tp,c',ag,l⟩:=H.out
 have hs:=f0.size
 exact⟨sp,rfl,zhd ⟨f,c',ag,f0.trans0 f,fun b hb=>(ag b (by omega)).trans (ag0 b hb),tp,_,l,rfl,rfl,rfl,rfl,rfl,rfl,by show(0:Int)<1;omega⟩⟩
theorem zit (hc:Cl w c) {w1:World} (f1:Fr C0 w w1) (hs:w1.heap.size=w.heap.size+2):∃c1:Nat→Nat,c1 (w.heap.size+1)=1∧c1 w.heap.size=1∧Ag w.heap.size c c1∧Cl w1 c1:=by
 refine⟨fun b=>if b=w.heap.size∨b=w.heap.size+1 then 1 else c b,by simp,by simp,fun b hb=>?_,fun b hb=>?_⟩
 · simp only[];rw[if_neg (by omega)]
 · simp only[];rw[if_neg (by omega)];exact hc b (by omega)
theorem ziu {F:Nat→Prop} {kv:Value} {k:Bs} {s:Int} (h:LSt w0 pn d sp La pos N c w) (hk:BytesAt F w kv k) :
 Calls Tryz.prog 29 #[.pointer (some ⟨sp,0,none⟩),.int .i64 s,kv] w fun e w'=>∃A m cp,e=.returned (.tuple #[.slice A m cp,.bool (decide (rightL s k [] false=0) && (getL (pk s.toNat k) La).isSome),.int .i64 (rightL s k [] false:Int)])∧Hid (Fr C0 w w'∧(rightL s k [] false=0→∀b,getL (pk s.toNat k) La=some b→BytesAt (fun b=>w.heap.size≤b) w' (.slice A m cp) b)):=by
 obtain⟨f0,ag0,tp,Z,hloc,rfl,-⟩:=h
 exact zhr hloc hk
theorem ziv {F G:Nat→Prop} {g s:Nat} {kv vv:Value} {k v:Bs} {gone:Bool} (hb:w.heap[g]?=some (.cells #[.int .i64 (s:Int),kv,vv,.bool gone] 57 (0,0))) (hF:F g) (hk:BytesAt F w kv k) (hv:BytesAt G w vv v):ChgR F G w (.slice (some ⟨g,0,none⟩) 1 1) [⟨(s:Int),k,v,gone⟩]:=by
 refine⟨_,1,rfl,Nat.le_refl _,by unfold maxLen;omega,fun i hi=>?_⟩
 obtain rfl:i=0:=by simpa using hi
 exact⟨g,0,kv,vv,rfl,hF,z2k hb 0 rfl,z2k hb 1 rfl,z2k hb 2 rfl,z2k hb 3 rfl,hk,hv⟩
theorem ziw {N:Nat} {w:World} {ov:Value} {M:List SKV} (h:OutS N w ov M):PairsS (fun b=>N≤b) w ov M:=by
 obtain⟨ys,a,b⟩:=h
 exact⟨ys,Row.ofOwn a (fun b hb=>(a.lt b hb).1),b.mono (fun b hb _=>hb.1)⟩
theorem zix {F G:Nat→Prop}:ChgR F G w (.slice none 0 0) []:=⟨none,0,rfl,Nat.le_refl _,by unfold maxLen;omega,fun i hi=>by simp at hi⟩
theorem ziy:∀u:Bs,putL ([16],u) (putL ([1,107],[107]) [])=[([1,107],[107]),([16],u)]:=fun u=>rfl
@[go_sem] theorem ziz (w : World) : (binOp .eql 9 (.string ⟨#[107]⟩) (.string ⟨#[107]⟩)).run Tryz.prog w = .ok (.bool true) w := by kernel_rfl
theorem zj0 (w:World):Calls Tryz.prog 25 #[] w fun e w'=>e=.returned (.bool true)∧Fr C0 w w':=by
 have HN:=zhd (z3g w 40 (by omega) (by omega))
 go_enter Tryz.func25,Tryz.ntmps25
 go_wp2_with fail
 refine HN.out.mono ?_
 rintro e w1 ⟨rfl,f1,hs1,hd1⟩
 obtain⟨c1,hc1,hc2,hag,hcl⟩:=zit (c:=fun _=>0) (fun _ _=>rfl) f1 hs1
 have HO:=zhd (zis (n:=40) f1 hag (hd1.mono fun b hb _=>hb.elim) hc1 hc2 hcl (by omega) (by omega))
 clear HN f1 hs1 hd1 hc1 hc2 hag hcl
 go_wp2_with fail
 refine HO.out.mono ?_
 rintro e w2 ⟨sp,rfl,H2⟩
 obtain⟨-,c2,-,l2⟩:=H2.out
 have L2:=zhd l2
 clear H2 HO l2
 have hcv1:=Go.Joins.run_convert_bytes_const_at (P:=Tryz.prog) w2 40 5 #[.int .u8 107] 1 1 w2.heap.size rfl Tryz.underlying40 Tryz.underlying5
 go_wp2_with fail
 clear hcv1
 have g3:=(Fr.refl C0 w2).alloc (.cells #[.int .u8 107] 5 (1,2))
 have hba:=heap_alloc_new w2 (.cells #[.int .u8 107] 5 (1,2))
 obtain⟨w3,hw3⟩:∃w3,w3=w2.alloc (.cells #[.int .u8 107] 5 (1,2)):=⟨_,rfl⟩
 have hs3:w3.heap.size=w2.heap.size+1:=by rw[hw3];simp
 rw[←hw3] at g3 hba
 have B3:Hid (BytesAt (fun b=>b<w3.heap.size∧c2 b=0) w3 (.slice (some ⟨w2.heap.size,0,none⟩) 1 1) [107]):=zhd (z0i.2 (Row.ofBlock (n:=1) (size:=1) hba ⟨by omega,L2.out.cl _ (Nat.le_refl _)⟩ (by unfold maxLen;omega) rfl))
 have g4:=(Fr.refl C0 w3).alloc (.cells #[.int .i64 1,.slice (some ⟨w2.heap.size,0,none⟩) 1 1,.slice (some ⟨w2.heap.size,0,none⟩) 1 1,.bool false] 57)
 have hb4:=heap_alloc_new w3 (.cells #[.int .i64 1,.slice (some ⟨w2.heap.size,0,none⟩) 1 1,.slice (some ⟨w2.heap.size,0,none⟩) 1 1,.bool false] 57)
 rw[←hw3]
 have hs4:(w3.alloc (.cells #[.int .i64 1,.slice (some ⟨w2.heap.size,0,none⟩) 1 1,.slice (some ⟨w2.heap.size,0,none⟩) 1 1,.bool false] 57)).heap.size=w3.heap.size+1:=by simp
 generalize w3.alloc (.cells #[.int .i64 1,.slice (some ⟨w2.heap.size,0,none⟩) 1 1,.slice (some ⟨w2.heap.size,0,none⟩) 1 1,.bool false] 57)=w4 at *
 have L4:=zhd ((L2.out.fr0 g3).fr0 g4)
 have B4:=zhd (B3.out.fr0 g4)
 have hown:∀b,c2 b=0→¬OwnL c2 b:=fun b h e=>by
  have e':c2 b=1∨c2 b=2∨c2 b=3∨c2 b=7:=e
  omega
 have R4:=zhd (ziv (F:=fun b=>b<w4.heap.size∧¬OwnL c2 b) (G:=fun b=>b<w4.heap.size∧c2 b=0) (s:=1) hb4 ⟨by omega,hown _ (L2.out.cl _ (by omega))⟩ (B4.out.mono (fun b hb _=>⟨by omega,hown b hb.2⟩)) (B4.out.mono (fun b hb _=>⟨by omega,hb.2⟩)))
 rw[hs3] at R4
 clear g3 hba g4 hb4 hown hs3 hs4
 refine(zim L4.out R4.out (by simp) (by simp) (by omega) (by omega)).mono ?_
 rintro e w5 ⟨err5,rfl,H5⟩
 have hck:chkL [⟨((1:Nat):Int),[107],[107],false⟩]=0:=by decide
 obtain⟨La,hLa⟩:∃La,La=([([1,107],[107]),([16],uintN 3)]:List KV):=⟨_,rfl⟩
 obtain⟨rfl,c5,f5,ag5,l5⟩:err5=0∧∃c5,Fr (OwnL c2) w4 w5∧Ag w4.heap.size c2 c5∧LSt w 38 (w.heap.size+1) sp La 3 1 c5 w5:=by
  rcases H5.out with⟨h,-⟩|⟨-,⟨h,-⟩|⟨-,c5,ag5,f5,⟨-,-,h⟩|⟨h,l5⟩⟩⟩
  · exact absurd h (by decide)
  · exact absurd hck h
  · exact absurd h (by decide)
  · refine⟨h,c5,f5,ag5,?_⟩
    rw[hLa,←ziy (uintN 3)]
    exact l5
 have L5:=zhd l5
 have HLa:=zhd hLa
 have B5:Hid (BytesAt (fun b=>c2 b=0) w5 (.slice (some ⟨w2.heap.size,0,none⟩) 1 1) [107]):=zhd ((B4.out.mono (F':=fun b=>c2 b=0) (fun b hb _=>hb.2)).fr f5 (fun b hb e=>by
  have e':c2 b=1∨c2 b=2∨c2 b=3∨c2 b=7:=e
  omega))
 clear H5 f5 ag5 l5 hLa hck R4 B4 L4 L2 B3
 go_wp2_with fail
 refine(zim (l:=[]) (np:=2) L5.out zix (by simp) (by rw[HLa.out];simp) (by omega) (by omega)).mono ?_
 rintro e w6 ⟨err6,rfl,H6⟩
 obtain⟨rfl,f6⟩:err6=1∧Fr C0 w5 w6:=by
  rcases H6.out with⟨-,h,f⟩|⟨h,-⟩
  · exact⟨h,f⟩
  · exact absurd (by decide) h
 have L6:=zhd (L5.out.fr0 f6)
 have B6:=zhd (B5.out.fr0 f6)
 clear H6 f6 L5 B5
 go_wp2_with fail
 refine(ziu (s:=1) L6.out B6.out).mono ?_
 rintro e w7 ⟨A7,m7,p7,rfl,H7⟩
 have hg1:getL (pk (1:Int).toNat [107]) La=some [107]:=by rw[HLa.out];rfl
 obtain⟨f7,b7⟩:=H7.out
 have B7:=zhd (b7 (by decide) _ hg1)
 rw[hg1,show(decide (rightL 1 [107] [] false=0) && (some [107]:Option Bs).isSome)=true from by decide,show(rightL 1 [107] [] false:Int)=0 from by decide]
 have L7:=zhd (L6.out.fr0 f7)
 have B67:=zhd (B6.out.fr0 f7)
 clear H7 f7 b7 hg1 L6 B6
 go_wp2_with fail
 refine(ziu (s:=2) L7.out B67.out).mono ?_
 rintro e w8 ⟨A8,m8,p8,rfl,H8⟩
 have hg2:getL (pk (2:Int).toNat [107]) La=none:=by rw[HLa.out];rfl
 rw[hg2,show(decide (rightL 2 [107] [] false=0) && (none:Option Bs).isSome)=false from by decide,show(rightL 2 [107] [] false:Int)=0 from by decide]
 have L8:=zhd (L7.out.fr0 H8.out.1)
 have B8:=zhd (B7.out.fr0 H8.out.1)
 clear H8 hg2 L7 B67 B7
 go_wp2_with fail
 refine(ziq L8.out (by rw[HLa.out];simp)).mono ?_
 rintro e w9 ⟨A9,p9,rfl,H9⟩
 have hexp:expL La=[([1,107],[107])]:=by rw[HLa.out];rfl
 have H9o:=H9.out.2
 rw[hexp] at H9o⊢
 have L9:=zhd (L8.out.fr0 H9.out.1)
 have B9:=zhd (B8.out.fr0 H9.out.1)
 have hps:PairsS (fun b=>w8.heap.size≤b) w9 (.slice A9 ([((1:Int),[107],[107])]:List SKV).length p9) [((1:Int),[107],[107])]:=ziw H9o
 obtain⟨g9,o9,kv9,vv9,rfl,r0,-,-,-,-⟩:=hps.at_ 0 (by simp)
 have HP:=zhd (zin L9.out)
 have HLn:=zhd (zio (s:=1) L9.out (by omega))
 have hcn:cntS 1 La=1:=by rw[HLa.out];rfl
 rw[hcn] at HLn
 obtain rfl:m7=1:=by
  obtain⟨A7',p7',e7,-⟩:=B9.out.form
  injection e7 with e71 e72 e73
 have hst:(convert 40 9 (.slice A7 1 p7)).run Tryz.prog w9=.ok (.string ⟨#[107]⟩) w9:=z2y B9.out
 have FE:=zhd L9.out.fr
 rw[Nat.zero_mul,Nat.add_zero] at r0
 have r1:w9.cell? ⟨g9,o9,none⟩=some (.int .i64 1):=r0
 clear hps r0 H9 H9o hexp hcn L8 B8
 go_wp2_with fail
 refine HP.out.mono ?_
 rintro e w10 ⟨rfl,rfl⟩
 go_wp2_with fail
 refine HLn.out.mono ?_
 rintro e w10 ⟨rfl,rfl⟩
 go_wp2_with fail
 go_ret
 exact⟨rfl,FE.out⟩
end
end Go.Proofs.YtidalepbkljkpaaGreat
