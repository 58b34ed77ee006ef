import Derived.Test.YtidalepbkljkpaaGreatLocalSpaces45
import Derived.Test.YtidalepbkljkpaaGreatLocalSpaces42
import Derived.Test.YtidalepbkljkpaaGreatLocalSpaces43
set_option linter.all false
namespace Go.Proofs.YtidalepbkljkpaaGreat
open Go.RowKit Go.H
set_option maxHeartbeats 1000000
set_option maxRecDepth 100000
section
structure LSt (w0:World) (pn d sp:Nat) (La:List KV) (pos N:Nat) (c:Nat→Nat) (w:World):Prop where
 fr:Fr C0 w0 w
 ag:Ag w0.heap.size (fun _=>0) c
 ex:∃tp Z,LocAt c w sp tp Z pos∧rootL Z.now=La∧Z.last=Z.now∧Z.back=[]∧Z.S.pages=pn∧Z.S.num=N∧Z.S.dk=d∧Z.D.after<1
variable {w0 w w' : World} {pn d sp pos N : Nat} {La : List KV} {c c' : Nat → Nat}
theorem LSt.fr0 (h:LSt w0 pn d sp La pos N c w) (hf:Fr C0 w w'):LSt w0 pn d sp La pos N c w':=by
 obtain⟨a,b,tp,Z,l,r⟩:=h
 exact⟨a.trans0 hf,b,tp,Z,l.fr0 hf,r⟩
theorem LSt.cl (h:LSt w0 pn d sp La pos N c w):Cl w c:=by
 obtain⟨a,b,tp,Z,l,r⟩:=h
 exact l.cl
theorem LSt.ok (h:LSt w0 pn d sp La pos N c w):LocOk La pos:=by
 obtain⟨a,b,tp,Z,l,rfl,r⟩:=h
 exact l.ok
theorem zix {w0 w w1:World} {c:Nat→Nat} (f0:Fr C0 w0 w) (ag:Ag w0.heap.size (fun _=>0) c) (f:Fr (OwnL c) w w1):Fr C0 w0 w1:=f0.trans f (fun b hb e=>by
 have e':c b=1∨c b=2∨c b=3∨c b=7:=e
 have h0:c b=0:=ag b hb
 omega)
def ApRes (w0:World) (pn d sp:Nat) (La:List KV) (pos N:Nat) (c:Nat→Nat) (w:World) (l:List Chg) (np:Int) (err:Nat) (w':World):Prop:=
 (np < pos ∧ err = 1 ∧ Fr C0 w w') ∨ (¬ np < pos ∧ ((chkL l ≠ 0 ∧ err = chkL l ∧ Fr C0 w w') ∨
  (chkL l=0∧∃c',Ag w.heap.size c c'∧Fr (OwnL c) w w'∧((err=21∧LSt w0 pn d sp La pos N c' w'∧pn<2*La.length+l.length+1)∨(err=0∧LSt w0 pn d sp (appL La l np.toNat) np.toNat (N+1) c' w')))))
theorem ziy {lv:Value} {l:List Chg} {np:Int} (h:LSt w0 pn d sp La pos N c w) (hl:ChgR (fun b=>b<w.heap.size∧¬OwnL c b) (fun b=>b<w.heap.size∧c b=0) w lv l) (hn:l.length≤1000) (hb:La.length≤80000) (hN:N<1000000) (hnp:np<9223372036854775808) :
 Calls Tryz.prog 24 #[.pointer (some ⟨sp,0,none⟩),.int .i64 np,lv] w fun e w'=>∃err:Nat,e=.returned (.int .i64 (err:Int))∧Hid (ApRes w0 pn d sp La pos N c w l np err w'):=by
 obtain⟨f0,ag0,tp,Z,hloc,rfl,e1,e2,e3,e4,e5,e6⟩:=h
 have HD:=zhd hloc.dead
 have c0:=hloc.c0
 have c1:=hloc.c1
 have HCK:=zhd (fun (w_:World) (hf:Fr C0 w w_)=>zio (hl.fr0 hf))
 have HCH:=zhd (fun (w_:World) (hf:Fr C0 w w_) (hok:∀x∈l,okC x) (np2:Nat) (h2:np2<9223372036854775808)=>zit (pos:=np2) (hloc.fr0 hf) e1 e2 ((hl.fr0 hf).mono (fun b hb _=>⟨by have:=hf.size;omega,hb.2⟩) (fun b hb _=>⟨by have:=hf.size;omega,hb.2⟩)) hok hn hb h2 (by omega) e6)
 have hst:Z.S.state.length≤(rootL Z.now).length:=by
  have:=zep hloc.t e2
  rwa [e1] at this
 have HST:=zhd hst
 have F0:=zhd f0
 have AG0:=zhd ag0
 have E:=zhd (show Z.S.pages=pn∧Z.S.num=N∧Z.S.dk=d∧Z.back=[] from⟨e3,e4,e5,e2⟩)
 obtain⟨A,cp,rfl,-⟩:=hl.form
 have HNP:=zhd hnp
 clear hnp
 clear hloc hl f0 ag0 e1 e2 e3 e4 e5 e6 hst
 go_enter Tryz.func24,Tryz.ntmps24
 go_wp2_with fail
 refine HD.out.mono ?_
 rintro e w1 ⟨rfl,hw1⟩
 have F1:=zhd (show Fr C0 w w1 from by rw[hw1];exact(Fr.refl _ w).drew)
 clear hw1 HD
 have d1:=F1.out.cell0 c1
 clear c0 c1
 by_cases hp:np<(pos:Int)
 · go_wp2_with fail
   go_ret
   exact⟨1,rfl,zhd (.inl ⟨hp,rfl,F1.out⟩)⟩
 · have HCK1:=zhd (HCK.out _ F1.out)
   obtain⟨r,hr⟩:∃r,r=chkL l:=⟨_,rfl⟩
   rw[←hr] at HCK1
   have HR:=zhd hr
   clear HCK hr
   by_cases h0:r=0
   · have HR2:Hid (chkL l=0):=zhd (by rw[←HR.out];exact h0)
     clear HR
     subst h0
     have HOK:Hid (∀x∈l,okC x):=zhd (zft HR2.out)
     obtain⟨n2,rfl⟩:∃n2:Nat,np=(n2:Int):=⟨np.toNat,by omega⟩
     have HP:=zhd hp
     have hnn:¬n2<pos:=by omega
     clear hp
     have hp2:((n2:Int)<(pos:Int))=False:=by simp[hnn]
     clear hnn
     go_wp2_with fail
     refine HCK1.out.mono ?_
     rintro e w2 ⟨rfl,f2⟩
     have F2:=zhd (F1.out.trans0 f2)
     have HC2:=zhd (HCH.out _ F2.out HOK.out n2 (by have:=HNP.out;omega))
     clear HCK1 HCH f2 d1
     go_wp2_with fail
     refine HC2.out.mono ?_
     rintro e w3 ⟨err,rfl,H3⟩
     go_wp2_with fail
     go_ret
     obtain⟨c3,Z3,ag3,f3,g1,g2,g3,g4,g5,g6,hh⟩:=H3.out
     have hs2:=F2.out.size
     have hag:Ag w.heap.size c c3:=fun b hb=>ag3 b (by omega)
     have hff:Fr (OwnL c) w w3:=(F2.out.mono (C2:=OwnL c) (fun _ _ e=>e.elim)).trans f3 (fun b hb e=>e)
     have hs0:=F0.out.size
     have hf0:=zix F0.out AG0.out hff
     have hag0:Ag w0.heap.size (fun _=>0) c3:=fun b hb=>(hag b (by omega)).trans (AG0.out b hb)
     rcases hh with⟨rfl,k1,k2,k3,k4⟩|⟨rfl,k1,k2,k3⟩
     · refine⟨21,rfl,zhd (.inr ⟨by have:=HP.out;omega,.inr ⟨HR2.out,c3,hag,hff,.inl ⟨rfl,⟨hf0,hag0,tp,Z3,k1,k2,g1,g2.trans E.out.2.2.2,g4.trans E.out.1,k3.trans E.out.2.1,g5.trans E.out.2.2.1,g6⟩,by have:=HST.out;have:=E.out.1;omega⟩⟩⟩)⟩
     · refine⟨0,rfl,zhd (.inr ⟨by have:=HP.out;omega,.inr ⟨HR2.out,c3,hag,hff,.inr ⟨rfl,⟨hf0,hag0,tp,Z3,k1,k2,g1,g2.trans E.out.2.2.2,g4.trans E.out.1,by rw[k3,E.out.2.1],g5.trans E.out.2.2.1,g6⟩⟩⟩⟩)⟩
   · have hr1:((r:Int) != 0)=true:=by simp[bne,z32];omega
     clear HCH
     go_wp2_with fail
     refine HCK1.out.mono ?_
     rintro e w2 ⟨rfl,f2⟩
     have F2:=zhd (F1.out.trans0 f2)
     clear f2 HCK1
     go_wp2_with fail
     go_ret
     exact⟨r,rfl,zhd (.inr ⟨by omega,.inl ⟨by rw[←HR.out];exact h0,HR.out,F2.out⟩⟩)⟩
theorem ziz (h:LSt w0 pn d sp La pos N c w):Calls Tryz.prog 26 #[.pointer (some ⟨sp,0,none⟩)] w fun e w'=>e=.returned (.int .i64 (pos:Int))∧w=w':=by
 obtain⟨f0,ag0,tp,Z,hloc,r⟩:=h
 have c1:=hloc.c1
 clear hloc r f0 ag0
 go_enter Tryz.func26,Tryz.ntmps26
 go_wp2_with fail
 go_ret
 exact⟨rfl,rfl⟩
theorem zj0 {s:Nat} (h:LSt w0 pn d sp La pos N c w) (hs:s<16):Calls Tryz.prog 44 #[.pointer (some ⟨sp,0,none⟩),.int .i64 (s:Int)] w fun e w'=>e=.returned (.int .i64 (cntS s La:Int))∧w=w':=by
 obtain⟨f0,ag0,tp,Z,hloc,rfl,r⟩:=h
 have c1:=z2k hloc.blk (2+s) (zi6 hs)
 have h1:(s:Int)<16:=by omega
 clear hloc r f0 ag0
 go_enter Tryz.func44,Tryz.ntmps44
 go_wp2_with fail
 go_ret
 exact⟨rfl,rfl⟩
def expL (La:List KV):List KV:=rangeL [] [16] La
theorem zj1 {La:List KV} (h:∀x∈La,locKey x.1) {x:KV} (hx:x∈expL La):2≤x.1.length:=by
 unfold expL rangeL at hx
 obtain⟨h1,h2⟩:=List.mem_filter.1 hx
 rcases h x h1 with⟨s,m,-,h3,-,h4⟩|h4
 · rw[h4];unfold pk;rw[List.length_cons];omega
 · unfold inR at h2
   rw[h4,z6e] at h2
   simp at h2
theorem zj2 (h:LSt w0 pn d sp La pos N c w) (hb:La.length≤80000) :
 Calls Tryz.prog 23 #[.pointer (some ⟨sp,0,none⟩)] w fun e w'=>∃A cp,e=.returned (.tuple #[.slice A (expL La).length cp,.int .i64 (pos:Int),.int .i64 0])∧Hid (Fr C0 w w'∧OutS w.heap.size w' (.slice A (expL La).length cp) ((expL La).map spK)):=by
 obtain⟨f0,ag0,tp,Z,hloc,rfl,-⟩:=h
 have HD:=zhd hloc.dead
 have c0:=hloc.c0
 have c1:=hloc.c1
 have HK:=zhd (fun (x:KV) (hx:x∈expL (rootL Z.now))=>zj1 hloc.ok.keys hx)
 have hcl:=hloc.cl
 obtain⟨q,hq1,hq2,hq3,hq4⟩:=zbp hcl 1 2
 have hq5:q≠0:=hq2
 have HR:=zhd (fun (w_:World) (kv:Value) (hf:Fr C0 w w_) (hk:BytesAt (fun b=>w.heap.size≤b) w_ kv [16])=>zer (n:=1073741824) hq2 hq3 hq4 hq1 (by omega) (hloc.fr0 hf).t (nilB (F:=Dt c)) (hk.mono (fun b hb _=>hcl b hb)) (by simp) (by simp))
 have hl2:(rangeL [] [16] (rootL Z.now)).length≤80000:=by
  have:(rangeL [] [16] (rootL Z.now)).length≤(rootL Z.now).length:=List.length_filter_le _ _
  omega
 have HT:Hid ((rangeL [] [16] (rootL Z.now)).take 1073741824=expL (rootL Z.now)):=zhd (List.take_of_length_le (by omega))
 clear hloc f0 ag0 hq1 hq2 hq3 hq4 hl2
 go_enter Tryz.func23,Tryz.ntmps23
 go_wp2_with fail
 refine HD.out.mono ?_
 rintro e w1 ⟨rfl,hw1⟩
 have F1:=zhd (show Fr C0 w w1 from by rw[hw1];exact(Fr.refl _ w).drew)
 have hs1:w1.heap.size=w.heap.size:=by rw[hw1];rfl
 have FA:=zhd (F1.out.alloc (.cells #[.int .u8 16] 5))
 have hb16:BytesAt (fun b=>w.heap.size≤b) (w1.alloc (.cells #[.int .u8 16] 5)) (.slice (some ⟨w1.heap.size,0,none⟩) 1 1) [16]:=z0i.2 (Row.ofBlock (n:=1) (size:=1) (heap_alloc_new w1 _) (by omega) (by unfold maxLen;omega) rfl)
 have HR1:=zhd (HR.out _ _ FA.out hb16)
 have d0:=F1.out.cell0 c0
 clear hw1 HD hb16 hs1 HR
 go_wp2_with fail
 refine HR1.out.mono ?_
 rintro e w2 ⟨f2,v2,c2,rfl,-,-,o2⟩
 rw[HT.out] at o2
 obtain⟨A2,p2,rfl,-⟩:=o2.form
 have F2:=zhd (FA.out.trans0 f2)
 have hsa:=FA.out.size
 obtain⟨xs,oa,ob,oc,-⟩:=o2
 have HS:=zhd (fun (w_:World) (hf:Fr C0 w2 w_)=>ziw (N:=w.heap.size) (z0m (z0n oa (fun b e=>by have:=(oc b e).2;omega)) hf (fun _ _ e=>e)) ((ob.fr hf (fun _ _ e=>e)).mono (fun b hb _=>⟨by have:=hb.2;omega,fun e=>by have h1:=(oc b e).1;rw[hb.1] at h1;exact hq5 h1.symm⟩)) HK.out)
 have HOC:=zhd (fun b (e:(Value.slice A2 (expL (rootL Z.now)).length p2).ownBlock=some b)=>(show w.heap.size≤b by have:=(oc b e).2;omega))
 have d1:=F2.out.cell0 c1
 have hspl:=World.block_lt_of_cell? w _ c1
 clear f2 oa ob oc HR1 d0 c0 c1
 go_wp2_with fail
 refine z1z (Fr (fun b=>(Value.slice A2 (expL (rootL Z.now)).length p2).ownBlock=some b) w2) [] (by kernel_rfl) ?_
 have hSw0:(Fr (fun b=>(Value.slice A2 (expL (rootL Z.now)).length p2).ownBlock=some b) w2) _:=(Fr.refl _ w2).drew
 refine tk 0 hSw0 ?_
 refine tk 2 hSw0 ?_
 refine tk 3 hSw0 ?_
 refine tk 4 hSw0 ?_
 refine tk 5 hSw0 ?_ (hy:=by intro w_ hS_;have b1:=hS_.cell d1 (fun e=>by have h9:=HOC.out _ e;simp at h9 hspl;omega);first|(go_simp;done)|(go_simp;with_reducible rfl))
 refine one_ 1 rfl (fun K hK=>?_)
 go_simp
 refine(HS.out _ (Fr.refl C0 w2).drew).mono ?_
 rintro e w3 ⟨rfl,H3⟩
 simp only[]
 refine hK.out _ _ ?kS1 (fun hSw1=>?kR1)
 case kS1=>exact(Fr.refl _ w2).drew.trans H3.out.1 (fun _ _ e=>e)
 clear hK K
 try simp only[Act.put,zs1,zs2,zs3]
 refine tk 6 hSw1 ?_
 refine tk 7 hSw1 ?_
 refine tk 8 hSw1 ?_
 refine z1y (by kernel_rfl) ?_ _
 go_wp2_with fail
 go_ret3
 exact⟨_,_,rfl,zhd ⟨F2.out.drew.transO H3.out.1 (fun b e=>HOC.out b e),H3.out.2⟩⟩
end
section
variable {c c' : Nat → Nat} {w w' : World} {dp sp tp : Nat} {Z : TSt} {lv : Value} {L : List Chg}
end
section
end
section
def OutC (N:Nat) (w:World) (ov:Value) (M:List Chg):Prop:=∃ys,w.ownsRow N 57 4 ov M.length ys∧ChgCells (fun b=>N≤b∧¬ov.ownBlock=some b) w ys M
theorem OutC.fr0 {N:Nat} {w w':World} {ov:Value} {M:List Chg} (h:OutC N w ov M) (hf:Fr C0 w w'):OutC N w' ov M:=by
 obtain⟨ys,a,b⟩:=h
 exact⟨ys,z0m a hf (fun _ _ e=>e),b.fr hf (fun _ _ e=>e)⟩
theorem OutC.nil {N:Nat} {w:World}:OutC N w (.slice none 0 0) []:=⟨[],World.ownsRow_nil _ _ _ _,.nil⟩
theorem OutC.form {N:Nat} {w:World} {ov:Value} {M:List Chg} (h:OutC N w ov M):∃A cp,ov=.slice A M.length cp:=by
 obtain⟨ys,a,b⟩:=h
 obtain⟨A,cp,rfl,-⟩:=z0o a
 exact⟨A,cp,rfl⟩
theorem OutC.add {N:Nat} {w w1 w2:World} {ov ov2 kv vv:Value} {M:List Chg} {ys:List Value} {x:Chg} (ho:w.ownsRow N 57 4 ov M.length ys) (hc:ChgCells (fun b=>N≤b∧¬ov.ownBlock=some b) w ys M) (f1:Fr C0 w w1) (hk:BytesAt (fun b=>N≤b∧¬ov.ownBlock=some b) w kv x.key) (hv:BytesAt (fun b=>N≤b∧¬ov.ownBlock=some b) w vv x.value)
 (f2:Fr (fun b=>ov.ownBlock=some b) w1 w2) (o2:w2.ownsRow N 57 4 ov2 (M.length+1) (ys++[.int .i64 x.space,kv,vv,.bool x.gone])) (k2:∀b,ov2.ownBlock=some b→ov.ownBlock=some b∨w1.heap.size≤b):OutC N w2 ov2 (M++[x]):=by
 have s1:=f1.size
 have F2:Fr (fun b=>ov.ownBlock=some b) w w2:=(f1.mono (fun _ _ e=>e.elim)).trans f2 (fun _ _ e=>e)
 have hn:∀b,(N≤b∧¬ov.ownBlock=some b)∧b<w.heap.size→N≤b∧¬ov2.ownBlock=some b:=fun b hb=>⟨hb.1.1,fun e=>by
  rcases k2 b e with e|e
  · exact hb.1.2 e
  · have:=hb.2;omega⟩
 have nw:∀{u:Value} {z:Bs},BytesAt (fun b=>N≤b∧¬ov.ownBlock=some b) w u z→BytesAt (fun b=>N≤b∧¬ov2.ownBlock=some b) w2 u z:=fun hb=>
  ((hb.mono (F':=fun b=>(N≤b∧¬ov.ownBlock=some b)∧b<w.heap.size) (fun b hb hl=>⟨hb,hl⟩)).fr F2 (fun b hb e=>hb.1.2 e)).mono (fun b hb _=>hn b hb)
 exact⟨_,by rw[List.length_append];exact o2,ChgCells.append (.cons (nw hk) (nw hv) .nil) (((hc.mono (F':=fun b=>(N≤b∧¬ov.ownBlock=some b)∧b<w.heap.size) (fun b hb hl=>⟨hb,hl⟩)).fr F2 (fun b hb e=>hb.1.2 e)).mono (fun b hb _=>hn b hb))⟩
variable {c c' : Nat → Nat} {w w' : World} {dp sp tp : Nat} {Z : TSt} {lv : Value} {L : List Chg}
end
end Go.Proofs.YtidalepbkljkpaaGreat
