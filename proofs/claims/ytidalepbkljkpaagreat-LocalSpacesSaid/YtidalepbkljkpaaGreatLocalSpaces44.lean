import Derived.Test.YtidalepbkljkpaaGreatLocalSpaces43
import Derived.Deep.CutRange
import Derived.Deep.CutBlock
import Derived.Deep.DeepCutAuto
set_option linter.all false
namespace Go.Proofs.YtidalepbkljkpaaGreat
open Go.RowKit Go.H
set_option maxRecDepth 100000
section
set_option maxHeartbeats 2000000
variable {c c' : Nat → Nat} {w w' : World} {sp tp p0 : Nat} {Z : TSt}
theorem zii {s:Nat} {k v:Bs} (hs:s<16) (h1:1≤k.length) (h2:k.length≤60) (h3:v.length≤1800):wrong (pk s k) v=0:=by
 unfold wrong
 rw[if_neg (by unfold pk;simp),if_neg]
 unfold pk
 rw[List.length_cons]
 omega
theorem zij {tp p0:Nat} {La Lb:List KV} (h:∀t,t<16→cntS t Lb=cntS t La):LocCells tp p0 La=LocCells tp p0 Lb:=by
 unfold LocCells
 congr 2
 refine List.map_congr_left fun t ht=>?_
 rw[h t (List.mem_range.1 ht)]
theorem LayT.same {La Lb:List KV} {c1:Nat→Nat} {w1:World} (h:LayT c w sp tp Z p0 La Lb c1 w1) (hn:∀t,t<16→cntS t Lb=cntS t La):LayW c w sp tp Z p0 Lb c1 w1:=by
 obtain⟨a,b,⟨o,g,t,e⟩,k,u⟩:=h
 refine⟨a,b,o,g,⟨t,?_,u⟩,e⟩
 show w1.heap[sp]?=some (.cells (LocCells tp p0 (rootL o)) _ _)
 rw[k,e,zij hn]
theorem zik (v:Bs) (La:List KV):∀t,t<16→cntS t (putL ([16],v) La)=cntS t La:=fun t _=>(zfp (zfr t) ([16],v) La).2 rfl
def LLayRes (c:Nat→Nat) (w:World) (sp tp:Nat) (Z:TSt) (p0:Nat) (l:List Chg) (pos:Nat) (err:Int) (w':World):Prop:=
 (err=21∧(∃La c1,LayW c w sp tp Z p0 La c1 w')∧Z.S.pages<Z.S.state.length+((rootL Z.now).length+l.length+1))∨
 ∃ c1 w1, LayW c w sp tp Z p0 (appL (rootL Z.now) l pos) c1 w1 ∧ ((err = 20 ∧ ∃ o g, LayAt c1 w1 sp tp { Z with now := o, gone := g } p0 ∧ rootL o = appL (rootL Z.now) l pos ∧ ComAt c1 1 2 3 w1 tp { Z with now := o, gone := g } 0 20 w') ∨
   (err=0∧∃c2 Z2,Ag w1.heap.size c1 c2∧Fr (OwnL c1) w1 w'∧LayAt c2 w' sp tp Z2 pos∧rootL Z2.now=appL (rootL Z.now) l pos∧Z2.last=Z2.now∧Z2.back=[]∧Z2.snaps=Z.snaps∧Z2.S.pages=Z.S.pages∧Z2.S.num=Z.S.num+1∧Z2.S.dk=Z.S.dk∧(Z.D.after<1→Z2.D.after<1)))
theorem zil {lv:Value} {l:List Chg} {pos:Nat} (h:LayAt c w sp tp Z p0) (hl:ChgR (fun b=>b<w.heap.size∧¬OwnL c b) (fun b=>b<w.heap.size∧c b=0) w lv l) (hok:∀x∈l,okC x) (hn:l.length≤1000) (hb:(rootL Z.now).length≤80000) (hpos:pos<9223372036854775808) (hnum:Z.S.num<1000000) :
 Calls Tryz.prog 91 #[.pointer (some ⟨sp,0,none⟩),.int .i64 (pos:Int),lv] w fun e w'=>∃err:Int,e=.returned (.int .i64 err)∧Hid (LLayRes c w sp tp Z p0 l pos err w'):=by
 have HW:=zhd (LayW.start h)
 have HC7:=zhd h.own
 have HL:=zhd hl
 have HOK:=zhd hok
 obtain⟨A,cp,rfl,hlc,hcm⟩:=hl.form
 unfold maxLen at hcm
 obtain⟨La,hLa⟩:∃La,La=rootL Z.now:=⟨_,rfl⟩
 rw[←hLa] at HW hb
 have HLA:=zhd hLa
 clear h hl hok hLa
 go_enter Tryz.func91,Tryz.ntmps91
 go_wp2_with fail
 go_loopw [15] (fun i wr=>∃k:Nat,k≤l.length∧i=.int .i64 (k:Int)∧Hid (∃c1,LayW c w sp tp Z p0 (foldC La (l.take k)) c1 wr)) (fun i _=>l.length-(intOf i).toNat)
 case atStart=>exact⟨0,Nat.zero_le _,rfl,zhd ⟨c,HW.out⟩⟩
 case round=>
  obtain⟨k,hk,rfl,hH⟩:=hrel
  by_cases hlt:k<l.length
  · obtain⟨c1,hW⟩:=hH.out
    obtain⟨g,o,kv,vv,rfl,hg,a0,a1,a2,a3,a4,a5⟩:=(hW.row HL.out).at_ k hlt
    have hx:=HOK.out l[k] (List.getElem_mem hlt)
    have hstep:foldC La (l.take (k+1))=stepC (foldC La (l.take k)) l[k]:=by rw[List.take_succ_eq_append_getElem hlt,zid]
    have hLl:=zic (l.take k) La (fun y hy=>HOK.out y (List.mem_of_mem_take hy))
    rw[List.length_take] at hLl
    generalize foldC La (l.take k)=Lk at *
    generalize l[k]=x at *
    obtain⟨xs,xk,xv,xg⟩:=x
    have hkey:=zfu hx
    dsimp only at a0 a1 a2 a3 a4 a5 hkey
    obtain⟨sx,rfl⟩:∃sx:Nat,xs=(sx:Int):=⟨xs.toNat,by omega⟩
    have hsx:sx<16:=by omega
    obtain⟨KA,kc,rfl,-⟩:=a4.form
    obtain⟨VA,vc,rfl,-⟩:=a5.form
    obtain⟨W5,hW5⟩:∃W5,W5=wr.alloc (.cells #[.int .i64 (sx:Int),.slice KA xk.length kc,.slice VA xv.length vc,.bool xg] 57):=⟨_,rfl⟩
    have f5:Fr C0 wr W5:=by rw[hW5];exact(Fr.refl C0 wr).alloc _
    have hb5:W5.heap[wr.heap.size]?=some (.cells #[.int .i64 (sx:Int),.slice KA xk.length kc,.slice VA xv.length vc,.bool xg] 57 (0,0)):=by rw[hW5];exact heap_alloc_new wr _
    have HW5:=zhd hW5
    have W5L:=zhd (hW.fr0 f5)
    have HK5:=zhd (a4.fr0 f5)
    have HV5:=zhd (a5.fr0 f5)
    have HLEN:=zhd (zig (hW.fr0 f5))
    have HB5:=zhd hb5
    have hn0:Hid (c1 wr.heap.size=0):=zhd (hW.cl _ (Nat.le_refl _))
    have HSTEP:=zhd hstep
    have HX:=zhd hx
    have d0:=(hW.fr0 f5).c0
    have q0:=z2k hb5 0 rfl
    have q1:=z2k hb5 1 rfl
    have q2:=z2k hb5 2 rfl
    have q3:=z2k hb5 3 rfl
    have D0:=zhd d0
    rw[hW5] at d0 HLEN
    have hkl:xk.length≤60:=hkey.2.2.2.1
    have hvl:xv.length≤1800:=hkey.2.2.2.2
    have HKW:Hid (wrong (pk sx xk) xv=0∧wrong (pk sx xk) []=0):=zhd ⟨zii hsx hkey.2.2.1 hkl hvl,zii hsx hkey.2.2.1 hkl (by simp)⟩
    clear hW a4 a5 hb5 f5 hx hstep hH hkey hW5 q0 q1 q2
    rw[HW5.out] at q3
    go_wp2_with fail
    refine HLEN.out.mono ?_
    rintro e w6 ⟨rfl,rfl⟩
    go_upto_if 25 with fail
    rw[←HW5.out]
    rw[←HW5.out] at q3
    clear d0 HLEN
    have HIN:=zhd (fun (w_:World) (hf:Fr C0 W5 w_)=>zg6 (s:=sx) (by omega) (HK5.out.fr0 hf) (by omega))
    have hcl5:=W5L.out.cl
    have HCL5:=zhd hcl5
    clear hcl5
    have d0:=D0.out
    have q0:=z2k HB5.out 0 rfl
    have q1:=z2k HB5.out 1 rfl
    have q2:=z2k HB5.out 2 rfl
    have hns:¬c1 sp=1:=by
     obtain⟨aa,bb,oo,gg,ll,ee⟩:=W5L.out
     rw[ll.own]
     decide
    have hnx:¬c1 wr.heap.size=1:=by rw[hn0.out];decide
    have hcut1:Hid (∀(F:Nat→Prop) (w_:World) (v_:Value) (y:Bs),Fr C0 W5 w_→BytesAt (fun b=>W5.heap.size≤b) w_ v_ y→BytesAt (Dt c1) w_ v_ y):=zhd (fun F w_ v_ y hf hb=>hb.mono (fun b hb _=>HCL5.out b hb))
    go_cut [10] (fun e wx=>∃err:Nat,e=.int .i64 (err:Int)∧(err=0∨err=21)∧Hid (Fr (fun b=>c1 b=1) W5 wx∧((err=21∧LayW c w sp tp Z p0 Lk c1 wx∧Z.S.pages<Z.S.state.length+(La.length+l.length+1))∨(err=0∧∃c2,LayT c w sp tp Z p0 Lk (stepC Lk ⟨(sx:Int),xk,xv,xg⟩) c2 wx))))
    case first=>
     cases xg with
     | true =>
       go_wp2_with fail
       refine z1z (Fr (fun b=>c1 b=1) W5) [] (by kernel_rfl) ?_
       have hSw0:(Fr (fun b=>c1 b=1) W5) _:=(Fr.refl _ W5).drew
       refine tk 0 hSw0 ?_
       refine tk 1 hSw0 ?_
       refine tk 2 hSw0 ?_
       refine tk 3 hSw0 ?_ (hy:=by intro w_ hS_;have b0:=hS_.cell d0 hns;have b1:=hS_.cell q0 hnx;have b2:=hS_.cell q1 hnx;first|(go_simp;done)|(go_simp;with_reducible rfl))
       refine tk 4 hSw0 ?_
       refine tk 5 hSw0 ?_
       refine tk 6 hSw0 ?_ (hy:=by intro w_ hS_;have b0:=hS_.cell d0 hns;have b1:=hS_.cell q0 hnx;have b2:=hS_.cell q1 hnx;first|(go_simp;done)|(go_simp;with_reducible rfl))
       refine tk 7 hSw0 ?_
       refine tk 8 hSw0 ?_
       refine tk 9 hSw0 ?_ (hy:=by intro w_ hS_;have b0:=hS_.cell d0 hns;have b1:=hS_.cell q0 hnx;have b2:=hS_.cell q1 hnx;first|(go_simp;done)|(go_simp;with_reducible rfl))
       refine one_ 10 rfl (fun K hK=>?_)
       go_simp
       refine(HIN.out _ (Fr.refl C0 W5).drew).mono ?_
       rintro e w6 ⟨A6,m6,p6,rfl,f6,b6⟩
       have F6:=zhd ((Fr.refl C0 W5).drew.trans0 f6)
       have B6:=zhd (hcut1.out (fun _=>True) _ _ _ F6.out (b6.mono (fun b h _=>h)))
       have HDEL:=zhd (zif (W5L.out.fr0 F6.out) HC7.out B6.out HKW.out.2 (by omega))
       clear f6 b6
       simp only[]
       refine hK.out _ _ ?kS1 (fun hSw1=>?kR1)
       case kS1=>exact F6.out.mono (fun _ _ e=>e.elim)
       clear hK K
       try simp only[Act.put,zs1,zs2,zs3]
       refine one_ 11 rfl (fun K hK=>?_)
       go_simp
       refine HDEL.out.mono ?_
       rintro e w7 ⟨ok7,err7,rfl,he7,H7⟩
       have F67:=zhd ((F6.out.mono (C2:=fun b=>c1 b=1) (fun _ _ e=>e.elim)).trans H7.out.1 (fun _ _ e=>e))
       simp only[]
       refine hK.out _ _ ?kS2 (fun hSw2=>?kR2)
       case kS2=>exact F67.out
       clear hK K
       try simp only[Act.put,zs1,zs2,zs3]
       refine tk 12 hSw2 ?_
       refine tk 13 hSw2 ?_
       refine tk 14 hSw2 ?_
       refine tk 15 hSw2 ?_
       refine z1y (by kernel_rfl) ?_ _
       go_wp2_with fail
       go_meet
       case rel=>
        refine⟨err7,rfl,he7,zhd ?_⟩
        obtain⟨f7,h7⟩:=H7.out
        refine⟨(F6.out.mono (fun _ _ e=>e.elim)).trans f7 (fun _ _ e=>e),?_⟩
        rcases h7 with⟨e1,e2,e3⟩|⟨e1,e2⟩
        · exact .inl ⟨e1,e2,by omega⟩
        · exact .inr ⟨e1,e2⟩
     | false =>
       go_wp2_with fail
       refine z1z (Fr (fun b=>c1 b=1) W5) [] (by kernel_rfl) ?_
       have hSw0:(Fr (fun b=>c1 b=1) W5) _:=(Fr.refl _ W5).drew
       refine tk 0 hSw0 ?_
       refine tk 1 hSw0 ?_
       refine tk 2 hSw0 ?_
       refine tk 3 hSw0 ?_ (hy:=by intro w_ hS_;have b0:=hS_.cell d0 hns;have b1:=hS_.cell q0 hnx;have b2:=hS_.cell q1 hnx;have b3:=hS_.cell q2 hnx;first|(go_simp;done)|(go_simp;with_reducible rfl))
       refine tk 4 hSw0 ?_
       refine tk 5 hSw0 ?_
       refine tk 6 hSw0 ?_ (hy:=by intro w_ hS_;have b0:=hS_.cell d0 hns;have b1:=hS_.cell q0 hnx;have b2:=hS_.cell q1 hnx;have b3:=hS_.cell q2 hnx;first|(go_simp;done)|(go_simp;with_reducible rfl))
       refine tk 7 hSw0 ?_
       refine tk 8 hSw0 ?_
       refine tk 9 hSw0 ?_ (hy:=by intro w_ hS_;have b0:=hS_.cell d0 hns;have b1:=hS_.cell q0 hnx;have b2:=hS_.cell q1 hnx;have b3:=hS_.cell q2 hnx;first|(go_simp;done)|(go_simp;with_reducible rfl))
       refine tk 11 hSw0 ?_
       refine tk 12 hSw0 ?_
       refine tk 13 hSw0 ?_ (hy:=by intro w_ hS_;have b0:=hS_.cell d0 hns;have b1:=hS_.cell q0 hnx;have b2:=hS_.cell q1 hnx;have b3:=hS_.cell q2 hnx;first|(go_simp;done)|(go_simp;with_reducible rfl))
       refine one_ 10 rfl (fun K hK=>?_)
       go_simp
       refine(HIN.out _ (Fr.refl C0 W5).drew).mono ?_
       rintro e w6 ⟨A6,m6,p6,rfl,f6,b6⟩
       have F6:=zhd ((Fr.refl C0 W5).drew.trans0 f6)
       have B6:=zhd (hcut1.out (fun _=>True) _ _ _ F6.out (b6.mono (fun b h _=>h)))
       have HPUT:=zhd (zie (x:=(pk sx xk,xv)) (W5L.out.fr0 F6.out) HC7.out B6.out (HV5.out.fr0 F6.out) HKW.out.1 (by omega))
       clear f6 b6
       simp only[]
       refine hK.out _ _ ?kS3 (fun hSw1=>?kR3)
       case kS3=>exact F6.out.mono (fun _ _ e=>e.elim)
       clear hK K
       try simp only[Act.put,zs1,zs2,zs3]
       refine one_ 14 rfl (fun K hK=>?_)
       go_simp
       refine HPUT.out.mono ?_
       rintro e w7 ⟨err7,rfl,he7,H7⟩
       have F67:=zhd ((F6.out.mono (C2:=fun b=>c1 b=1) (fun _ _ e=>e.elim)).trans H7.out.1 (fun _ _ e=>e))
       simp only[]
       refine hK.out _ _ ?kS4 (fun hSw2=>?kR4)
       case kS4=>exact F67.out
       clear hK K
       try simp only[Act.put,zs1,zs2,zs3]
       refine tk 15 hSw2 ?_
       refine z1y (by kernel_rfl) ?_ _
       go_wp2_with fail
       go_meet
       case rel=>
        refine⟨err7,rfl,he7,zhd ?_⟩
        obtain⟨f7,h7⟩:=H7.out
        refine⟨(F6.out.mono (fun _ _ e=>e.elim)).trans f7 (fun _ _ e=>e),?_⟩
        have h8:=zi9 (pk sx xk,xv) Lk
        rcases h7 with⟨e1,e2,e3⟩|⟨e1,e2⟩
        · exact .inl ⟨e1,e2,by omega⟩
        · exact .inr ⟨e1,e2⟩
    case rest=>
     obtain⟨err,rfl,he,HR⟩:=hcut
     rcases he with rfl|rfl
     · obtain⟨f7,h7⟩:=HR.out
       obtain⟨c2,T⟩:∃c2,LayT c w sp tp Z p0 Lk (stepC Lk ⟨(sx:Int),xk,xv,xg⟩) c2 wc:=by
        rcases h7 with⟨e1,-⟩|⟨-,e2⟩
        · cases e1
        · exact e2
       obtain⟨k1,k2,k3⟩:=zib (La:=Lk) (s:=sx) rfl HX.out
       generalize stepC Lk ⟨(sx:Int),xk,xv,xg⟩=Lb at *
       have HT:=zhd T
       have HK1:=zhd k1
       have HLT:=zhd (fun (w_:World) (hf:Fr C0 wc w_)=>zih (T.fr0 hf))
       have e0:=f7.cell q0 hnx
       have t0:=z2k T.blk 0 rfl
       have t1:=z2k T.blk (2+sx) (zi6 hsx)
       have tz:=z2i (2+sx) T.blk
       have hsl:=(Array.getElem?_eq_some_iff.1 T.blk).1
       have hcn:=zia sx Lk
       have hLk:Lk.length≤90000:=by omega
       have hw1:IntKind.i64.wrap ((Lb.length:Int)-(Lk.length:Int))=(Lb.length:Int)-(Lk.length:Int):=by rw[IntKind.wrap_i64];omega
       have hw2:IntKind.i64.wrap ((cntS sx Lk:Int)+((Lb.length:Int)-(Lk.length:Int)))=(cntS sx Lb:Int):=by rw[IntKind.wrap_i64];omega
       have hsxi:(sx:Int)<16:=by omega
       clear HR h7 T k1 k2 f7 d0 q0 q1 q2 q3 HIN HCL5 hcut1 HV5 HK5 W5L
       go_wp2_with fail
       refine z1z (Fr C0 wc) [19] (by kernel_rfl) ?_
       have hSw0:(Fr C0 wc) _:=(Fr.refl C0 wc).drew
       refine tk 0 hSw0 ?_
       refine tk 1 hSw0 ?_
       refine tk 2 hSw0 ?_
       refine tk 3 hSw0 ?_ (hy:=by intro w_ hS_;have b0:=hS_.cell0 t0;have b1:=hS_.cell0 t1;have b2:=hS_.cell0 e0;have bz:=(hS_.frozen hsl (fun e=>e)).trans tz;first|(go_simp;done)|(go_simp;with_reducible rfl))
       refine tk 4 hSw0 ?_
       refine tk 5 hSw0 ?_
       refine tk 6 hSw0 ?_
       refine tk 7 hSw0 ?_ (hy:=by intro w_ hS_;have b0:=hS_.cell0 t0;have b1:=hS_.cell0 t1;have b2:=hS_.cell0 e0;have bz:=(hS_.frozen hsl (fun e=>e)).trans tz;first|(go_simp;done)|(go_simp;with_reducible rfl))
       refine tk 8 hSw0 ?_
       refine tk 9 hSw0 ?_
       refine tk 10 hSw0 ?_
       refine tk 11 hSw0 ?_ (hy:=by intro w_ hS_;have b0:=hS_.cell0 t0;have b1:=hS_.cell0 t1;have b2:=hS_.cell0 e0;have bz:=(hS_.frozen hsl (fun e=>e)).trans tz;first|(go_simp;done)|(go_simp;with_reducible rfl))
       refine tk 13 hSw0 ?_
       refine tk 16 hSw0 ?_
       refine tk 17 hSw0 ?_
       refine one_ 12 rfl (fun K hK=>?_)
       go_simp
       refine(HLT.out _ (Fr.refl C0 wc).drew).mono ?_
       rintro e w8 ⟨rfl,hw8⟩
       subst hw8
       simp only[]
       refine hK.out _ _ ?kS5 (fun hSw1=>?kR5)
       case kS5=>exact(Fr.refl C0 wc).drew
       clear hK K
       try simp only[Act.put,zs1,zs2,zs3]
       refine tk 14 hSw1 ?_
       refine tk 15 hSw1 ?_
       refine tk 18 hSw1 ?_
       refine z1v 19 rfl (fun K hK=>?_)
       go_simp
       refine hK.out _ _ ?_;clear hK K
       try simp only[Act.put,zs1,zs2,zs3]
       refine z1y (by kernel_rfl) ?_ _
       have HN:=zhd ((HT.out.count HC7.out hsx HK1.out).fr0 (Fr.refl C0 _).drew)
       go_wp2_with fail
       go_roundw
       case rel=>exact⟨k+1,by omega,by go_num,zhd ⟨c2,by rw[HSTEP.out];exact HN.out⟩⟩
       case measure=>simp[intOf];omega
     · obtain⟨f7,h7⟩:=HR.out
       have h8:LayW c w sp tp Z p0 Lk c1 wc∧Z.S.pages<Z.S.state.length+(La.length+l.length+1):=by
        rcases h7 with⟨-,e1,e2⟩|⟨e1,-⟩
        · exact⟨e1,e2⟩
        · cases e1
       have H8:=zhd h8
       clear HR h7 h8 f7 d0 q0 q1 q2 q3 HIN HCL5 hcut1 HV5 HK5 W5L
       go_wp2_with fail
       go_ret
       exact⟨21,rfl,zhd (.inl ⟨rfl,⟨Lk,c1,H8.out.1⟩,by rw[←HLA.out];exact H8.out.2⟩)⟩
  · obtain rfl:k=l.length:=by omega
    obtain⟨c1,hW⟩:=hH.out
    rw[List.take_length] at hW
    have hLl:=zic l La (fun y hy=>HOK.out y hy)
    obtain⟨Lk,hLk⟩:∃Lk,Lk=foldC La l:=⟨_,rfl⟩
    rw[←hLk] at hW hLl
    have HLK:=zhd hLk
    have W5L:=zhd hW
    have HCL5:=zhd hW.cl
    have d0:=hW.c0
    have hns:¬c1 sp=1:=by
     obtain⟨aa,bb,oo,gg,ll,ee⟩:=hW
     rw[ll.own]
     decide
    have HU:=zhd (fun (w_:World)=>zg4 pos hpos w_)
    have hwp:wrong [16] (uintN pos)=0:=by
     have h9:=zf6 hpos
     unfold wrong
     rw[if_neg (by simp),if_neg]
     rw[zf8]
     simp
     omega
    have HWP:=zhd hwp
    clear hW hLk hwp hH
    have HB16:Hid (∀w_:World,BytesAt (fun b=>w_.heap.size≤b) (w_.alloc (.cells #[.int .u8 16] 5)) (.slice (some ⟨w_.heap.size,0,none⟩) 1 1) [16]):=zhd (fun w_=>z0i.2 (Row.ofBlock (n:=1) (size:=1) (heap_alloc_new w_ _) (Nat.le_refl _) (by unfold maxLen;omega) rfl))
    have HP:=zhd (fun (w_:World) (kv vv:Value) (hf:Fr C0 wr w_) (hk:BytesAt (fun b=>wr.heap.size≤b) w_ kv [16]) (hv:BytesAt (fun b=>wr.heap.size≤b) w_ vv (uintN pos))=>zie (x:=([16],uintN pos)) (W5L.out.fr0 hf) HC7.out (hk.mono (fun b hb _=>HCL5.out b hb)) (hv.mono (fun b hb _=>HCL5.out b hb)) HWP.out (by omega))
    go_wp2_with fail
    go_cut [11] (fun e wx=>∃err:Nat,e=.int .i64 (err:Int)∧(err=0∨err=21)∧Hid ((err=21∧LayW c w sp tp Z p0 Lk c1 wx∧Z.S.pages<Z.S.state.length+(putL ([16],uintN pos) Lk).length)∨(err=0∧∃c2,LayT c w sp tp Z p0 Lk (putL ([16],uintN pos) Lk) c2 wx)))
    case first=>
     refine z1z (Fr (fun b=>c1 b=1) wr) [] (by kernel_rfl) ?_
     have hSw0:(Fr (fun b=>c1 b=1) wr) _:=(Fr.refl _ wr).drew
     refine tk 0 hSw0 ?_
     refine tk 1 hSw0 ?_
     refine tk 2 hSw0 ?_
     refine tk 3 hSw0 ?_ (hy:=by intro w_ hS_;have b0:=hS_.cell d0 hns;first|(go_simp;done)|(go_simp;with_reducible rfl))
     refine tk 5 hSw0 ?_
     refine z1x 4 6 rfl rfl (by kernel_rfl) rfl rfl (fun K hK=>?_) (fun K hK=>?_)
     · skip
       go_simp
       refine hK.out _ _ ?kS6 (fun hSw1=>?kR6)
       case kS6=>first|exact((Fr.refl _ wr).alloc _).drew|exact((Fr.refl _ wr).drew.trans0 F5.out).alloc _
       clear hK K
       try simp only[Act.put,zs1,zs2,zs3]
       refine one_ 6 rfl (fun K hK=>?_)
       go_simp
       refine(HU.out _).mono ?_
       rintro e w5 ⟨u5,rfl,f5,o5⟩
       have hsz5:=f5.size
       have B5:=zhd (BytesAt.ofOwn (F:=fun b=>wr.heap.size≤b) o5 (fun b e=>by have:=(o5.lt b e).1;first|omega|(simp at this;omega)))
       have F5:=zhd f5
       obtain⟨A5,p5,rfl,-⟩:=z0o o5
       clear f5 o5 hsz5
       simp only[]
       refine hK.out _ _ ?kS7 (fun hSw2=>?kR7)
       case kS7=>first|exact((Fr.refl _ wr).drew.trans0 F5.out)|exact(((Fr.refl _ wr).alloc _).drew.trans0 F5.out)
       clear hK K
       try simp only[Act.put,zs1,zs2,zs3]
       refine one_ 7 rfl (fun K hK=>?_)
       go_simp
       first
       |(refine(HP.out _ _ _ (((Fr.refl C0 wr).alloc _).drew.trans0 F5.out) ((HB16.out wr).fr0 (((Fr.refl C0 _).drew).trans0 F5.out)) B5.out).mono ?_)
       |(refine(HP.out _ _ _ (((Fr.refl C0 wr).drew.trans0 F5.out).alloc _) ((HB16.out w5).mono (fun b hb _=>by have:=((Fr.refl C0 wr).drew.trans0 F5.out).size;omega)) (B5.out.fr0 ((Fr.refl C0 w5).alloc _))).mono ?_)
       rintro e w7 ⟨err7,rfl,he7,H7⟩
       simp only[]
       refine hK.out _ _ ?kS8 (fun hSw3=>?kR8)
       case kS8=>first|exact((((Fr.refl _ wr).alloc _).drew.trans0 F5.out).trans H7.out.1 (fun _ _ e=>e))|exact((((Fr.refl _ wr).drew.trans0 F5.out).alloc _).trans H7.out.1 (fun _ _ e=>e))
       clear hK K
       try simp only[Act.put,zs1,zs2,zs3]
       refine tk 8 hSw3 ?_
       refine z1y (by kernel_rfl) ?_ _
       go_wp2_with fail
       go_meet
       case rel=>exact⟨err7,rfl,he7,zhd H7.out.2⟩
     · skip
       go_simp
       refine(HU.out _).mono ?_
       rintro e w5 ⟨u5,rfl,f5,o5⟩
       have hsz5:=f5.size
       have B5:=zhd (BytesAt.ofOwn (F:=fun b=>wr.heap.size≤b) o5 (fun b e=>by have:=(o5.lt b e).1;first|omega|(simp at this;omega)))
       have F5:=zhd f5
       obtain⟨A5,p5,rfl,-⟩:=z0o o5
       clear f5 o5 hsz5
       simp only[]
       refine hK.out _ _ ?kS9 (fun hSw4=>?kR9)
       case kS9=>first|exact((Fr.refl _ wr).drew.trans0 F5.out)|exact(((Fr.refl _ wr).alloc _).drew.trans0 F5.out)
       clear hK K
       try simp only[Act.put,zs1,zs2,zs3]
       refine one_ 4 rfl (fun K hK=>?_)
       go_simp
       refine hK.out _ _ ?kS10 (fun hSw5=>?kR10)
       case kS10=>first|exact((Fr.refl _ wr).alloc _).drew|exact((Fr.refl _ wr).drew.trans0 F5.out).alloc _
       clear hK K
       try simp only[Act.put,zs1,zs2,zs3]
       refine one_ 7 rfl (fun K hK=>?_)
       go_simp
       first
       |(refine(HP.out _ _ _ (((Fr.refl C0 wr).alloc _).drew.trans0 F5.out) ((HB16.out wr).fr0 (((Fr.refl C0 _).drew).trans0 F5.out)) B5.out).mono ?_)
       |(refine(HP.out _ _ _ (((Fr.refl C0 wr).drew.trans0 F5.out).alloc _) ((HB16.out w5).mono (fun b hb _=>by have:=((Fr.refl C0 wr).drew.trans0 F5.out).size;omega)) (B5.out.fr0 ((Fr.refl C0 w5).alloc _))).mono ?_)
       rintro e w7 ⟨err7,rfl,he7,H7⟩
       simp only[]
       refine hK.out _ _ ?kS11 (fun hSw6=>?kR11)
       case kS11=>first|exact((((Fr.refl _ wr).alloc _).drew.trans0 F5.out).trans H7.out.1 (fun _ _ e=>e))|exact((((Fr.refl _ wr).drew.trans0 F5.out).alloc _).trans H7.out.1 (fun _ _ e=>e))
       clear hK K
       try simp only[Act.put,zs1,zs2,zs3]
       refine tk 8 hSw6 ?_
       refine z1y (by kernel_rfl) ?_ _
       go_wp2_with fail
       go_meet
       case rel=>exact⟨err7,rfl,he7,zhd H7.out.2⟩
    case rest=>
     obtain⟨err,rfl,he,HR⟩:=hcut
     have hpl:=zi9 ([16],uintN pos) Lk
     clear HP HB16 HU HCL5 W5L d0
     rcases he with rfl|rfl
     · obtain⟨c2,T⟩:∃c2,LayT c w sp tp Z p0 Lk (putL ([16],uintN pos) Lk) c2 wc:=by
        rcases HR.out with⟨e1,-⟩|⟨-,e2⟩
        · cases e1
        · exact e2
       have hWn:=T.same (zik (uintN pos) Lk)
       have hap:putL ([16],uintN pos) Lk=appL (rootL Z.now) l pos:=by rw[HLK.out,HLA.out];rfl
       rw[hap] at hWn
       have HWN:=zhd hWn
       obtain⟨ag,fr,o,gn,lay,ho⟩:=hWn
       have HCM:=zhd (zek own1 lay.t hnum)
       have HLAY:=zhd lay
       have HO:=zhd ho
       have t0:=lay.c0
       clear HR T hap ag fr lay ho hpl
       go_wp2_with fail
       refine HCM.out.mono ?_
       rintro e w8 ⟨err,rfl,H8⟩
       have hf8:=H8.out.1
       have hs1:¬(c2 sp=1∨c2 sp=2∨c2 sp=3):=by rw[HLAY.out.own];omega
       have k8:=hf8.blk HLAY.out.blk hs1
       have K8:=zhd k8
       have z8:=z2i 1 k8
       have y8:=z2k k8 1 rfl
       rcases(show err=0∨err=20 by rcases H8.out.2 with⟨h,-⟩|⟨h,-⟩;exact .inl h;exact .inr h) with rfl|rfl
       · clear hf8 hs1 k8
         go_wp2_with fail
         go_ret
         obtain⟨f8,h8⟩:=H8.out
         refine⟨0,rfl,zhd (.inr ⟨c2,wc,HWN.out,.inr ⟨rfl,?_⟩⟩)⟩
         rcases h8 with⟨-,c3,Z2,ag,t,e0,e1,e2,e3,e4,e5,e6,e7,e8,e9⟩|⟨e,-⟩
         · refine⟨c3,Z2,ag,(f8.mono (C2:=OwnL c2) (fun b _ e=>by
            have e':c2 b=1∨c2 b=2∨c2 b=3:=e
            rcases e' with e|e|e
            · exact .inl e
            · exact .inr (.inl e)
            · exact .inr (.inr (.inl e)))).setCell (p:=⟨sp,1,none⟩) (.inr (.inr (.inr (.inr HLAY.out.own)))) _,LayAt.turn (p1:=pos) t K8.out ((ag sp (Array.getElem?_eq_some_iff.1 HLAY.out.blk).1).trans HLAY.out.own) ?_,by rw[e1];exact HO.out,e2,e0.1,e0.2,e5,e6,e8,e9⟩
           rw[e1]
           exact zi8
         · cases e
       · clear hf8 hs1 k8
         go_wp2_with fail
         go_ret
         exact⟨20,rfl,zhd (.inr ⟨c2,wc,HWN.out,.inl ⟨rfl,o,gn,HLAY.out,HO.out,H8.out⟩⟩)⟩
     · have h8:LayW c w sp tp Z p0 Lk c1 wc∧Z.S.pages<Z.S.state.length+(putL ([16],uintN pos) Lk).length:=by
        rcases HR.out with⟨-,e1,e2⟩|⟨e1,-⟩
        · exact⟨e1,e2⟩
        · cases e1
       have H8:=zhd h8
       clear HR h8
       go_wp2_with fail
       go_ret
       exact⟨21,rfl,zhd (.inl ⟨rfl,⟨Lk,c1,H8.out.1⟩,by rw[←HLA.out];have:=H8.out.2;omega⟩)⟩
end
section
set_option maxHeartbeats 1000000
theorem zim (s:Int) (k v:Bs) (b:Bool):rightL s k v b=0∨rightL s k v b=1∨rightL s k v b=3:=by
 unfold rightL
 split
 · exact .inr (.inl rfl)
 · split
   · exact .inr (.inr rfl)
   · exact .inl rfl
theorem zin:∀l:List Chg,chkL l=0∨chkL l=1∨chkL l=3
 |[]=>.inl rfl
 | x :: l => by
   have h1:=zim x.space x.key x.value false
   have h2:=zin l
   simp only[chkL]
   split
   · exact .inr (.inl rfl)
   · split
     · exact .inr (.inl rfl)
     · omega
variable {w w' : World}
theorem zio {F G:Nat→Prop} {lv:Value} {l:List Chg} (hl:ChgR F G w lv l) :
 Calls Tryz.prog 63 #[lv] w fun e w'=>e=.returned (.int .i64 (chkL l:Int))∧Fr C0 w w':=by
 have HL:=zhd hl
 obtain⟨A,cp,rfl,hlc,hcm⟩:=hl.form
 unfold maxLen at hcm
 clear hl
 go_enter Tryz.func63,Tryz.ntmps63
 go_wp2_with fail
 go_loopw [9,3] (fun i t wr=>∃(k told:Nat),k≤l.length∧i=.int .i64 (k:Int)∧t=.int .i64 (told:Int)∧(told=0∨told=3)∧Hid (chkL l=if chkL (l.drop k)=1 then 1 else max told (chkL (l.drop k)))∧Hid (Fr C0 w wr)) (fun i _ _=>l.length-(intOf i).toNat)
 case atStart=>exact⟨0,0,Nat.zero_le _,rfl,rfl,.inl rfl,zhd (by rw[List.drop_zero];split<;>simp_all),zhd (Fr.refl _ _)⟩
 case round=>
  obtain⟨k,told,hk,rfl,rfl,ht,hM,HF⟩:=hrel
  by_cases hlt:k<l.length
  · obtain⟨g,o,kv,vv,rfl,hg,a0,a1,a2,a3,a4,a5⟩:=(HL.out.fr0 HF.out).at_ k hlt
    have hdrop:l.drop k=l[k]::l.drop (k+1):=(List.getElem_cons_drop hlt).symm
    rw[hdrop] at hM
    clear hdrop
    generalize l[k]=x at *
    obtain⟨xs,xk,xv,xg⟩:=x
    dsimp only at a0 a1 a2 a3 a4 a5
    have HR:=zhd (fun (w_:World) (hf:Fr C0 wr w_)=>zg5 (s:=xs) (bare:=false) (a4.fr0 hf) (a5.fr0 hf))
    obtain⟨KA,kc,rfl,-⟩:=a4.form
    obtain⟨VA,vc,rfl,-⟩:=a5.form
    have fa:=(Fr.refl C0 wr).alloc (.cells #[.int .i64 xs,.slice KA xk.length kc,.slice VA xv.length vc,.bool xg] 57)
    have hb:=heap_alloc_new wr (.cells #[.int .i64 xs,.slice KA xk.length kc,.slice VA xv.length vc,.bool xg] 57)
    have q0:=z2k hb 0 rfl
    have q1:=z2k hb 1 rfl
    have q2:=z2k hb 2 rfl
    have FA:=zhd fa
    have FW:=zhd (HF.out.trans0 fa)
    have hv:=zim xs xk xv false
    have hM2:Hid (chkL l=if chkL (⟨xs,xk,xv,xg⟩::l.drop (k+1))=1 then 1 else max told (chkL (⟨xs,xk,xv,xg⟩::l.drop (k+1)))):=hM
    simp only[chkL] at hM2
    have hd:=zin (l.drop (k+1))
    obtain⟨r,hr⟩:∃r,r=rightL xs xk xv false:=⟨_,rfl⟩
    rw[←hr] at HR hv hM2
    obtain⟨q,hq⟩:∃q,q=chkL (l.drop (k+1)):=⟨_,rfl⟩
    rw[←hq] at hd hM2
    have HQ:=zhd hq
    clear hr hq fa hb a4 a5 hM HL
    go_wp2_with fail
    refine(HR.out _ FA.out).mono ?_
    rintro e w5 ⟨rfl,rfl⟩
    have hnew:r≠1→chkL l=if q=1 then 1 else max (max told r) q:=fun h1=>by
     have:=hM2.out
     rw[if_neg h1] at this
     rw[this]
     by_cases h2:q=1
     · rw[if_pos h2,if_pos h2,if_pos rfl]
     · rw[if_neg h2,if_neg h2,if_neg (by omega)]
       omega
    have HNEW:=zhd hnew
    have h1:r=1→chkL l=1:=fun h1=>by
     have:=hM2.out
     rw[if_pos h1,if_pos rfl] at this
     exact this
    have H1:=zhd h1
    clear hnew h1 hM2 HR q0 q1 q2 hd
    rcases hv with rfl|rfl|rfl
    · rcases ht with rfl|rfl
      · go_wp2_with fail
        go_roundw
        case rel=>exact⟨k+1,0,by omega,by go_num,rfl,.inl rfl,zhd (by rw[←HQ.out];exact HNEW.out (by omega)),FW⟩
        case measure=>simp[intOf];omega
      · go_wp2_with fail
        go_roundw
        case rel=>exact⟨k+1,3,by omega,by go_num,rfl,.inr rfl,zhd (by rw[←HQ.out];exact HNEW.out (by omega)),FW⟩
        case measure=>simp[intOf];omega
    · go_wp2_with fail
      go_ret
      exact⟨by rw[H1.out (by first|rfl|trivial)];rfl,FW.out⟩
    · rcases ht with rfl|rfl
      · go_wp2_with fail
        go_roundw
        case rel=>exact⟨k+1,3,by omega,by go_num,rfl,.inr rfl,zhd (by rw[←HQ.out];exact HNEW.out (by omega)),FW⟩
        case measure=>simp[intOf];omega
      · go_wp2_with fail
        go_roundw
        case rel=>exact⟨k+1,3,by omega,by go_num,rfl,.inr rfl,zhd (by rw[←HQ.out];exact HNEW.out (by omega)),FW⟩
        case measure=>simp[intOf];omega
  · obtain rfl:k=l.length:=by omega
    go_wp2_with fail
    go_ret
    refine⟨?_,HF.out⟩
    have:=hM.out
    rw[List.drop_length] at this
    simp only[chkL] at this
    rw[this]
    simp
end
end Go.Proofs.YtidalepbkljkpaaGreat
