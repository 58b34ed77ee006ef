import Derived.Test.YtidalepbkljkpaaGreatDraftSame19
import Derived.Test.YtidalepbkljkpaaGreatDraftSame16
import Derived.Test.YtidalepbkljkpaaGreatDraftSame06
import Derived.Test.YtidalepbkljkpaaGreatDraftSame03
import Derived.Test.YtidalepbkljkpaaGreatDraftSame10
import Derived.Maps.RangeRun
set_option linter.all false
namespace Go.Proofs.YtidalepbkljkpaaGreat
open Go.RowKit Go.H
set_option maxHeartbeats 1000000
set_option maxRecDepth 100000
section
theorem zai {F G:Nat→Prop} {w:World} {B:Nat} {x y:Chg} {ku vu kv:Value} (hx:BytesAt F w ku x.key) (hv:BytesAt F w vu x.value) (hy:BytesAt G w kv y.key) (h0:w.cell? ⟨B,0,none⟩=some (.int .i64 y.space)) (h1:w.cell? ⟨B,1,none⟩=some kv) :
 Calls Tryz.prog 51 #[.agg #[.int .i64 x.space,ku,vu,.bool x.gone],.pointer (some ⟨B,0,none⟩)] w fun e w'=>e=.returned (.bool (decide (likeC x y)))∧Fr C0 w w':=by
 obtain⟨s,k,v,g⟩:=x
 obtain⟨s',k',v',g'⟩:=y
 simp only at *
 have HE:=zhd (fun (w_:World) (hf:Fr C0 w w_)=>z29 (hx.fr0 hf) (hy.fr0 hf))
 obtain⟨KA,kc,rfl,-⟩:=hx.form
 obtain⟨VA,vc,rfl,-⟩:=hv.form
 obtain⟨YA,yc,rfl,-⟩:=hy.form
 have F1:=zhd ((Fr.refl C0 w).alloc (.cells #[.int .i64 s,.slice KA k.length kc,.slice VA v.length vc,.bool g] 57))
 have d0:=F1.out.cell0 h0
 have d1:=F1.out.cell0 h1
 clear hx hv hy h0 h1
 by_cases hs:s=s'
 · subst hs
   go_enter Tryz.func51,Tryz.ntmps51
   go_wp2_with fail
   refine(HE.out _ F1.out).mono ?_
   rintro e w2 ⟨rfl,rfl⟩
   go_wp2_with fail
   go_ret
   refine⟨?_,F1.out⟩
   simp[likeC]
 · have hb:(s == s')=false:=beq_false_of_ne hs
   have HS:=zhd hs
   clear hs
   go_enter Tryz.func51,Tryz.ntmps51
   go_wp2_with fail
   go_ret
   refine⟨?_,F1.out⟩
   simp[likeC,HS.out]
theorem zaj {F G H:Nat→Prop} {w:World} {B cp:Nat} {A:Option Addr} {l:List Chg} {xs:List Value} {y:Chg} {kv:Value} (hr:Row F w (.slice A l.length cp) l.length 4 xs) (hc:ChgCells G w xs l) (hy:BytesAt H w kv y.key) (h0:w.cell? ⟨B,0,none⟩=some (.int .i64 y.space)) (h1:w.cell? ⟨B,1,none⟩=some kv) (hl:l.length≤100000) :
 Calls Tryz.prog 78 #[.slice A l.length cp,.func (.func 51) #[] #[.pointer (some ⟨B,0,none⟩)]] w fun e w'=>∃i:Int,e=.returned (.int .i64 i)∧Hid ((0≤i↔∃x∈l,likeC x y)∧Fr C0 w w'):=by
 have HR:=zhd hr
 have HC:=zhd hc
 have HY:=zhd hy
 have H0:=zhd h0
 have H1:=zhd h1
 clear hr hc hy h0 h1
 go_enter Tryz.func78,Tryz.ntmps78
 go_wp2_with fail
 go_loopw [8] (fun i wr=>∃k:Nat,k≤l.length∧i=.int .i64 (k:Int)∧Hid (∀j,j<k→(hj:j<l.length)→¬likeC l[j] y)∧Fr C0 w wr) (fun i _=>l.length-(intOf i).toNat)
 case atStart=>exact⟨0,Nat.zero_le _,rfl,zhd (fun j h=>by omega),Fr.refl _ _⟩
 case round=>
  obtain⟨k,hk,rfl,hno,hf⟩:=hrel
  have HF:=zhd hf
  clear hf
  by_cases hlt:k<l.length
  · obtain⟨g,o,ku,vu,rfl,a0,a1,a2,a3,a4,a5⟩:=z9d (HR.out.fr0 HF.out) (HC.out.fr HF.out (fun _ _ e=>e)) k hlt
    generalize hx:l[k]=x at a0 a1 a2 a3 a4 a5
    have HXJ:=zhd hx
    clear hx
    have HCL:=zhd (zai (x:=x) (y:=y) a4 (a5.mono (fun b h _=>h)) (HY.out.fr0 HF.out) (HF.out.cell0 H0.out) (HF.out.cell0 H1.out))
    obtain⟨A4,p4,rfl,-⟩:=a4.form
    obtain⟨A5,p5,rfl,-⟩:=a5.form
    clear a4 a5
    go_wp2_with fail
    refine HCL.out.mono ?_
    rintro e w3 ⟨rfl,f3⟩
    have F3:=zhd (HF.out.trans0 f3)
    clear f3
    obtain⟨b,hb⟩:∃b,b=decide (likeC x y):=⟨_,rfl⟩
    rw[←hb]
    have HB:=zhd hb
    clear hb HCL
    cases b with
    | true =>
      go_wp2_with fail
      go_ret
      refine⟨(k:Int),rfl,zhd ⟨⟨fun _=>⟨x,?_,of_decide_eq_true HB.out.symm⟩,fun _=>by omega⟩,F3.out⟩⟩
      rw[←HXJ.out]
      exact List.getElem_mem _
    | false =>
      go_wp2_with fail
      go_roundw
      case rel=>exact⟨k+1,by omega,by go_num,zhd (fun j h1 h2=>by
       by_cases e:j=k
       · subst e
         rw[HXJ.out]
         exact of_decide_eq_false HB.out.symm
       · exact hno.out j (by omega) h2),F3.out⟩
      case measure=>simp[intOf];omega
  · obtain rfl:k=l.length:=by omega
    go_wp2_with fail
    go_ret
    refine⟨-1,rfl,zhd ⟨⟨fun h=>by omega,fun ⟨x,hx,hlk⟩=>?_⟩,HF.out⟩⟩
    obtain⟨j,hj,rfl⟩:=List.getElem_of_mem hx
    exact absurd hlk (hno.out j hj hj)
theorem zak {F G H:Nat→Prop} {w:World} {B cp:Nat} {A:Option Addr} {l:List Chg} {xs:List Value} {y:Chg} {kv:Value} (hr:Row F w (.slice A l.length cp) l.length 4 xs) (hc:ChgCells G w xs l) (hy:BytesAt H w kv y.key) (h0:w.cell? ⟨B,0,none⟩=some (.int .i64 y.space)) (h1:w.cell? ⟨B,1,none⟩=some kv) (hl:l.length≤100000) :
 Calls Tryz.prog 50 #[.slice A l.length cp,.func (.func 51) #[] #[.pointer (some ⟨B,0,none⟩)]] w fun e w'=>e=.returned (.bool (l.any fun x=>decide (likeC x y)))∧Fr C0 w w':=by
 have HI:=zhd (zaj hr hc hy h0 h1 hl)
 clear hr hc hy h0 h1
 go_enter Tryz.func50,Tryz.ntmps50
 go_wp2_with fail
 refine HI.out.mono ?_
 rintro e w2 ⟨i,rfl,H2⟩
 go_wp2_with fail
 go_ret
 refine⟨?_,H2.out.2⟩
 have h3:=H2.out.1
 have h4:(l.any fun x=>decide (likeC x y))=decide (0≤i):=by
  rw[Bool.eq_iff_iff,List.any_eq_true,decide_eq_true_iff,h3]
  simp
 rw[h4]
 rfl
end
section
theorem zal {F:Nat→Prop} {w:World}:∀{xs:List Value} {l:List Chg} (m:Nat),ChgCells F w xs l→ChgCells F w (xs.drop (m*4)) (l.drop m)
 |_,_,0,h=>by simpa using h
 |_,_,m+1,.nil=>by simpa using ChgCells.nil
 | _, _, m + 1, .cons h1 h2 h3 => by
   rw[show(m+1)*4=m*4+1+1+1+1 by omega]
   exact zal m h3
theorem zam:∀l:List Chg,(lastsD l).length≤l.length
 |[]=>Nat.le_refl _
 | c :: l => by
   rw[lastsD,List.length_cons]
   have:=zam l
   split
   · omega
   · rw[List.length_cons];omega
def OutC (N:Nat) (w:World) (ov:Value) (M:List Chg):Prop:=∃ys,w.ownsRow N 57 4 ov M.length ys∧ChgCells (fun b=>N≤b∧¬ov.ownBlock=some b) w ys M
theorem OutC.fr0 {N:Nat} {w w':World} {ov:Value} {M:List Chg} (h:OutC N w ov M) (hf:Fr C0 w w'):OutC N w' ov M:=by
 obtain⟨ys,a,b⟩:=h
 exact⟨ys,z0l a hf (fun _ _ e=>e),b.fr hf (fun _ _ e=>e)⟩
theorem OutC.nil {N:Nat} {w:World}:OutC N w (.slice none 0 0) []:=⟨[],World.ownsRow_nil _ _ _ _,.nil⟩
theorem OutC.form {N:Nat} {w:World} {ov:Value} {M:List Chg} (h:OutC N w ov M):∃A cp,ov=.slice A M.length cp:=by
 obtain⟨ys,a,b⟩:=h
 obtain⟨A,cp,rfl,-⟩:=z0n a
 exact⟨A,cp,rfl⟩
theorem OutC.add {N:Nat} {w w1 w2:World} {ov ov2 kv vv:Value} {M:List Chg} {ys:List Value} {x:Chg} (ho:w.ownsRow N 57 4 ov M.length ys) (hc:ChgCells (fun b=>N≤b∧¬ov.ownBlock=some b) w ys M) (f1:Fr C0 w w1) (hk:BytesAt (fun b=>N≤b∧¬ov.ownBlock=some b) w kv x.key) (hv:BytesAt (fun b=>N≤b∧¬ov.ownBlock=some b) w vv x.value)
 (f2:Fr (fun b=>ov.ownBlock=some b) w1 w2) (o2:w2.ownsRow N 57 4 ov2 (M.length+1) (ys++[.int .i64 x.space,kv,vv,.bool x.gone])) (k2:∀b,ov2.ownBlock=some b→ov.ownBlock=some b∨w1.heap.size≤b):OutC N w2 ov2 (M++[x]):=by
 have s1:=f1.size
 have F2:Fr (fun b=>ov.ownBlock=some b) w w2:=(f1.mono (fun _ _ e=>e.elim)).trans f2 (fun _ _ e=>e)
 have hn:∀b,(N≤b∧¬ov.ownBlock=some b)∧b<w.heap.size→N≤b∧¬ov2.ownBlock=some b:=fun b hb=>⟨hb.1.1,fun e=>by
  rcases k2 b e with e|e
  · exact hb.1.2 e
  · have:=hb.2;omega⟩
 have nw:∀{u:Value} {z:Bs},BytesAt (fun b=>N≤b∧¬ov.ownBlock=some b) w u z→BytesAt (fun b=>N≤b∧¬ov2.ownBlock=some b) w2 u z:=fun hb=>
  ((hb.mono (F':=fun b=>(N≤b∧¬ov.ownBlock=some b)∧b<w.heap.size) (fun b hb hl=>⟨hb,hl⟩)).fr F2 (fun b hb e=>hb.1.2 e)).mono (fun b hb _=>hn b hb)
 exact⟨_,by rw[List.length_append];exact o2,ChgCells.append (.cons (nw hk) (nw hv) .nil) (((hc.mono (F':=fun b=>(N≤b∧¬ov.ownBlock=some b)∧b<w.heap.size) (fun b hb hl=>⟨hb,hl⟩)).fr F2 (fun b hb e=>hb.1.2 e)).mono (fun b hb _=>hn b hb))⟩
variable {c c' : Nat → Nat} {w w' : World} {dp sp tp : Nat} {Z : TSt} {lv : Value} {L : List Chg}
theorem zan {K:World→Value→Prop} (h:DrfAt c w dp sp tp Z lv L) (hL:L.length≤100000)
 (HS:Hid (∀(w_:World) (ov:Value),Fr C0 w w_→OutC w.heap.size w_ ov (lastsD L)→Calls Tryz.prog 54 #[ov,.func (.func 55) #[] #[]] w_ fun e w'=>e=.returned (.tuple #[])∧K w' ov)) :
 Calls Tryz.prog 15 #[.pointer (some ⟨dp,0,none⟩)] w fun e w'=>∃ov,e=.returned ov∧K w' ov:=by
 have HD:=zhd h
 have c1:=h.c1
 obtain⟨xs,hov,hxx⟩:=h.row
 have HXR:=zhd (Row.ofOwn hov (F:=fun _=>True) (fun _ _=>trivial))
 have HXC:=zhd (hxx.mono (F':=fun b=>c b=0∧b<w.heap.size) (fun b h1 h2=>⟨h1,h2⟩))
 have HOK:=zhd h.ok
 obtain⟨A,cp,rfl,hLc,hcm,-⟩:=h.form
 unfold maxLen at hcm
 clear h hov hxx
 go_enter Tryz.func15,Tryz.ntmps15
 go_wp2_with fail
 go_loopw [12,3] (fun i o wr=>∃k M,k≤L.length∧i=.int .i64 (k:Int)∧Hid (M++lastsD (L.drop k)=lastsD L)∧Hid (OutC w.heap.size wr o M)∧Fr C0 w wr) (fun i o _=>L.length-(intOf i).toNat)
 case atStart=>exact⟨0,[],Nat.zero_le _,rfl,zhd rfl,zhd OutC.nil,Fr.refl _ _⟩
 case round=>
  obtain⟨k,M,hk,rfl,hM,hO,hf⟩:=hrel
  have HF:=zhd hf
  by_cases hlt:k<L.length
  · obtain⟨g,o,ku,vu,rfl,a0,a1,a2,a3,a4,a5⟩:=z9d (HXR.out.fr0 HF.out) (HXC.out.fr HF.out (fun _ _ e=>e)) k hlt
    generalize hx:L[k]=x at a0 a1 a2 a3 a4 a5
    have HXJ:=zhd hx
    clear hx
    have f2:=hf.alloc (.cells #[.int .i64 x.space,ku,vu,.bool x.gone] 57)
    have d1:=f2.cell0 c1
    have hbx:=heap_alloc_new wr (.cells #[.int .i64 x.space,ku,vu,.bool x.gone] 57)
    have HBX:=zhd hbx
    have q0:=z1u hbx 0 rfl
    have q1:=z1u hbx 1 rfl
    have q2:=z1u hbx 2 rfl
    have hr2:=HXR.out.drop (i:=k+1) (by omega)
    rw[show L.length-(k+1)=(L.drop (k+1)).length from by rw[List.length_drop]] at hr2
    have HC1:=zhd (zak (y:=x) (hr2.fr0 f2) ((zal (k+1) HXC.out).fr f2 (fun _ _ e=>e)) (a4.fr0 ((Fr.refl C0 wr).alloc _)) q0 q1 (by rw[List.length_drop];omega))
    rw[List.length_drop] at HC1
    have F2:=zhd f2
    clear hr2 hbx f2
    have H4:=zhd a4
    have H5:=zhd a5
    obtain⟨A4,p4,rfl,-⟩:=a4.form
    obtain⟨A5,p5,rfl,-⟩:=a5.form
    clear a4 a5 hf
    have hm:cp=k+1∨k+1<cp:=by omega
    go_upto_region 5 with fail
    go_cut [6] (fun b wx=>b=.bool ((L.drop (k+1)).any fun z=>decide (likeC z x))∧Fr C0 (wr.alloc (.cells #[.int .i64 x.space,.slice A4 x.key.length p4,.slice A5 x.value.length p5,.bool x.gone] 57)) wx)
    case first=>
     by_cases hcp:cp=k+1
     · subst hcp
       rw[if_pos rfl,show k+1-(k+1)=0 by omega,show L.length-(k+1)=0 by omega] at HC1
       clear hm
       go_wp2_with fail
       refine HC1.out.mono ?_
       rintro e w3 ⟨rfl,f3⟩
       go_wp2_with fail
       go_meet
       case rel=>exact⟨rfl,f3⟩
     · have ha:(⟨g,o,none⟩:Addr).add ((k+1)*4)=⟨g,o+(k+1)*4,none⟩:=by unfold Addr.add;split<;>simp_all
       rw[if_neg hcp] at HC1
       simp only[Option.map_some,ha] at HC1
       clear ha hm
       go_wp2_with fail
       refine HC1.out.mono ?_
       rintro e w3 ⟨rfl,f3⟩
       go_wp2_with fail
       go_meet
       case rel=>exact⟨rfl,f3⟩
    case rest=>
     obtain⟨rfl,f3⟩:=hcut
     have F3:=zhd f3
     clear f3 hm HC1 d1 q0 q1 q2
     obtain⟨A3,p3,rfl⟩:=hO.out.form
     have hdrop:L.drop k=x::L.drop (k+1):=by rw[←HXJ.out,List.getElem_cons_drop]
     have HDR:Hid (lastsD (L.drop k)=if ((L.drop (k+1)).any fun z=>decide (likeC z x)) then lastsD (L.drop (k+1)) else x::lastsD (L.drop (k+1))):=zhd (by rw[hdrop];rfl)
     clear hdrop
     have FW:=zhd (((Fr.refl C0 wr).alloc (.cells #[.int .i64 x.space,.slice A4 x.key.length p4,.slice A5 x.value.length p5,.bool x.gone] 57)).trans0 F3.out)
     cases hany:(L.drop (k+1)).any fun z=>decide (likeC z x) with
     | true =>
       rw[hany] at HDR
       clear hany
       go_wp2_with fail
       go_roundw
       case rel=>exact⟨k+1,M,by omega,by go_num,zhd (by have:=hM.out;rw[HDR.out] at this;exact this),zhd (hO.out.fr0 FW.out),F2.out.trans0 F3.out⟩
       case measure=>simp[intOf];omega
     | false =>
       rw[hany] at HDR
       clear hany
       have hb3:=F3.out.blk HBX.out (fun e=>e)
       have HB3:=zhd hb3
       have r1:=z1u hb3 1 rfl
       have r2:=z1u hb3 2 rfl
       have hxm:x∈L:=by rw[←HXJ.out];exact List.getElem_mem _
       have hok:=z8m (HOK.out x hxm)
       have HCK:=zhd (fun (w_:World) (hf:Fr C0 wc w_)=>z8t (H4.out.fr0 (FW.out.trans0 hf)) (by have:=hok.2.2.2.1;omega))
       have HCV:=zhd (fun (w_:World) (hf:Fr C0 wc w_)=>z8t (H5.out.fr0 (FW.out.trans0 hf)) (by have:=hok.2.2.2.2;omega))
       clear hb3 hxm hok
       have hsz:=FW.out.size
       go_wp2_with fail
       refine z1i (Fr C0 wc) [10,11,12,13] (by kernel_rfl) ?_
       have hSw0:(Fr C0 wc) _:=(Fr.refl C0 wc).drew
       refine tkU 0 hSw0 ?_
       refine tkU 1 hSw0 ?_
       refine tkU 2 hSw0 ?_ (hy:=by intro w_ hS_;have b0:=hS_.cell0 r1;have b1:=hS_.cell0 r2;first|(go_simp;done)|(go_simp;with_reducible rfl))
       refine tkU 4 hSw0 ?_
       refine tkU 5 hSw0 ?_
       refine tkU 6 hSw0 ?_ (hy:=by intro w_ hS_;have b0:=hS_.cell0 r1;have b1:=hS_.cell0 r2;first|(go_simp;done)|(go_simp;with_reducible rfl))
       refine one_ 3 rfl (fun K hK=>?_)
       go_simp
       refine(HCK.out _ (Fr.refl C0 wc).drew).mono ?_
       rintro e w4 ⟨kv,rfl,f4,o4⟩
       have F4:=zhd ((Fr.refl C0 wc).drew.trans0 f4)
       have B4:=zhd (o4.mono (F':=fun b=>wc.heap.size≤b) (fun b h _=>h))
       obtain⟨A6,p6,rfl,-⟩:=o4.form
       clear f4 o4
       simp only[]
       refine hK.out _ _ ?kS1 (fun hSw1=>?kR1)
       case kS1=>exact F4.out
       clear hK K
       try simp only[Act.put,zs1,zs2,zs3]
       refine tkU 8 hSw1 ?_
       refine tkU 9 hSw1 ?_
       refine one_ 7 rfl (fun K hK=>?_)
       go_simp
       refine(HCV.out _ F4.out).mono ?_
       rintro e w5 ⟨vv,rfl,f5,o5⟩
       have F5:=zhd (F4.out.trans0 f5)
       have B45:=zhd (B4.out.fr0 f5)
       have B5:=zhd (o5.mono (F':=fun b=>wc.heap.size≤b) (fun b h _=>by have:=F4.out.size;omega))
       obtain⟨A7,p7,rfl,-⟩:=o5.form
       have z1:=z1s 1 (F5.out.blk HB3.out (fun e=>e))
       have z2:=z1s 2 (F5.out.blk HB3.out (fun e=>e))
       have y1:=z1u (F5.out.blk HB3.out (fun e=>e)) 1 rfl
       have y2:=z1u (F5.out.blk HB3.out (fun e=>e)) 2 rfl
       clear f5 o5
       simp only[]
       refine hK.out _ _ ?kS2 (fun hSw2=>?kR2)
       case kS2=>exact F5.out
       clear hK K
       try simp only[Act.put,zs1,zs2,zs3]
       refine z1f 10 rfl (fun K hK=>?_)
       go_simp
       refine hK.out _ _ ?_;clear hK K
       try simp only[Act.put,zs1,zs2,zs3]
       refine tkT 11 ?_
       refine tkT 12 ?_
       refine z1f 13 rfl (fun K hK=>?_)
       go_simp
       refine hK.out _ _ ?_;clear hK K
       try simp only[Act.put,zs1,zs2,zs3]
       refine z1h (by kernel_rfl) ?_ _
       have hb5:=z1t (i:=2) (z1t (i:=1) (F5.out.blk HB3.out (fun e=>e)) (.slice A6 x.key.length p6)) (.slice A7 x.value.length p7)
       have F6:Fr (fun b=>b=wr.heap.size) wc ((w5.setCell ⟨wr.heap.size,1,none⟩ (.slice A6 x.key.length p6)).setCell ⟨wr.heap.size,2,none⟩ (.slice A7 x.value.length p7)):=((F5.out.mono (C2:=fun b=>b=wr.heap.size) (fun _ _ e=>e.elim)).setCell (p:=⟨wr.heap.size,1,none⟩) (.inr rfl) _).setCell (p:=⟨wr.heap.size,2,none⟩) (.inr rfl) _
       have fs:Fr (fun b=>b=wr.heap.size) w5 ((w5.setCell ⟨wr.heap.size,1,none⟩ (.slice A6 x.key.length p6)).setCell ⟨wr.heap.size,2,none⟩ (.slice A7 x.value.length p7)):=((Fr.refl (fun b=>b=wr.heap.size) w5).setCell (p:=⟨wr.heap.size,1,none⟩) (.inr rfl) _).setCell (p:=⟨wr.heap.size,2,none⟩) (.inr rfl) _
       have hsc:wr.heap.size<wc.heap.size:=(Array.getElem?_eq_some_iff.1 HB3.out).1
       have hown:∀b,wc.heap.size≤b→w.heap.size≤b∧¬(Value.slice A3 M.length p3).ownBlock=some b:=fun b hb=>⟨by have:=HF.out.size;omega,fun e=>by
        obtain⟨ys,ho,-⟩:=hO.out
        have:=(ho.lt b e).2
        omega⟩
       have K6:=zhd ((B45.out.fr fs (fun b hb e=>by have e2:b=wr.heap.size:=e;omega)).mono (fun b hb _=>hown b hb))
       have V6:=zhd ((B5.out.fr fs (fun b hb e=>by have e2:b=wr.heap.size:=e;omega)).mono (fun b hb _=>hown b hb))
       have FF6:=zhd F6
       have G6:=zhd (((FW.out.mono (C2:=fun b=>b=wr.heap.size) (fun _ _ e=>e.elim)).trans F6 (fun _ _ e=>e)))
       have FN:Hid (Fr C0 w ((w5.setCell ⟨wr.heap.size,1,none⟩ (.slice A6 x.key.length p6)).setCell ⟨wr.heap.size,2,none⟩ (.slice A7 x.value.length p7))):=zhd (((((F2.out.trans0 F3.out).trans0 F5.out).setCell (p:=⟨wr.heap.size,1,none⟩) (.inl (HF.out.size)) _)).setCell (p:=⟨wr.heap.size,2,none⟩) (.inl (HF.out.size)) _)
       have u0:=z1u hb5 0 rfl
       have u1:=z1u hb5 1 rfl
       have u2:=z1u hb5 2 rfl
       have u3:=z1u hb5 3 rfl
       clear hown hb5 F6 fs z1 z2 y1 y2 B45 B5 B4 HCK HCV r1 r2
       generalize (w5.setCell ⟨wr.heap.size,1,none⟩ (.slice A6 x.key.length p6)).setCell ⟨wr.heap.size,2,none⟩ (.slice A7 x.value.length p7)=w6 at *
       obtain⟨ys,ho,hc⟩:=hO.out
       have HO6:=zhd (z0l ho G6.out (fun b e e2=>by have e3:b=wr.heap.size:=e2;have:=(ho.lt b e).2;omega))
       have HC6:=zhd ((((hc.mono (F':=fun b=>(w.heap.size≤b∧¬(Value.slice A3 M.length p3).ownBlock=some b)∧b<wr.heap.size) (fun b hb hl=>⟨hb,hl⟩)).fr G6.out (fun b hb e=>by have e3:b=wr.heap.size:=e;omega))).mono (fun b hb _=>hb.1))
       have hms:M.length≤100000:=by
        have:=congrArg List.length hM.out
        have h2:(lastsD L).length≤L.length:=zam L
        rw[List.length_append] at this
        omega
       have hs6:=FN.out.size
       clear ho hc
       go_wp2_with (at_builtin;go_must (refine z0k z8u rfl _ _ rfl (v:=.slice A3 M.length p3) (xv:=.slice (some ⟨w6.heap.size,0,none⟩) 1 1) rfl rfl (B:=w.heap.size) (z0l HO6.out ((Fr.refl C0 w6).alloc _) (fun _ _ h=>h)) (Row.ofBlock (F:=fun _=>True) (heap_alloc_new w6 _) trivial (by unfold maxLen;omega) rfl) (by simp[Value.oneCell']) (by unfold maxLen;omega) (by omega) (Nat.le_trans hs6 ((Fr.refl C0 w6).alloc _).size) ?_);intro v7 w7 o7 f7 k7 nil7)
       go_roundw
       case rel=>exact⟨k+1,M++[x],by omega,by go_num,zhd (by have:=hM.out;rw[HDR.out] at this;rw[List.append_assoc];exact this),zhd (OutC.add HO6.out HC6.out ((Fr.refl C0 w6).alloc _) K6.out V6.out f7 o7 k7),(FN.out.alloc _).transO f7 (fun b e=>(HO6.out.lt b e).1)⟩
       case measure=>simp[intOf];omega
  · obtain rfl:k=L.length:=by omega
    have hME:M=lastsD L:=by have:=hM.out;rw[List.drop_length] at this;simpa [lastsD] using this
    have hO2:=hO.out
    rw[hME] at hO2
    have HCS:=zhd (HS.out wr _ HF.out hO2)
    clear hO2 hf hME
    go_wp2_with fail
    refine HCS.out.mono ?_
    rintro e w2 ⟨rfl,hK⟩
    go_wp2_with fail
    go_ret
    exact⟨_,rfl,hK⟩
end
section
def leftAt (w:World) (lm r:Nat):Nat:=match w.heap[lm]? with
 |some (.map es _)=>(leftOf es (w.iterSeen r)).size
 |_=>0
theorem zao {w:World} {lm r:Nat} {es:Array MapEntry} {clock a c0:Nat} {q:Option Nat} {s:Array Nat} (h:w.heap[lm]?=some (.map es clock)) (hr:w.heap[r]?=some (.mapIter q a s c0)):leftAt w lm r=(leftOf es s).size:=by
 unfold leftAt World.iterSeen
 rw[h,hr]
theorem zap {α β:Type} {f:α→β} {x y:α}:∀{l:List α},(l.map f).Nodup→x∈l→y∈l→f x=f y→x=y
 | a :: l, hn, hx, hy, h => by
   have hn2:f a∉l.map f∧(l.map f).Nodup:=List.nodup_cons.1 hn
   rcases List.mem_cons.1 hx with rfl|hx2<;>rcases List.mem_cons.1 hy with rfl|hy2
   · rfl
   · exact absurd (h▸List.mem_map_of_mem hy2) hn2.1
   · exact absurd (h▸List.mem_map_of_mem hx2) hn2.1
   · exact zap hn2.2 hx2 hy2 h
end
end Go.Proofs.YtidalepbkljkpaaGreat
namespace Go.HS
open Go.RowKit Go.H
section
theorem zaq (a b:ByteArray):(a == b)=decide (a=b):=by
 cases a with|mk a=>cases b with|mk b=>
 show(a == b)=_
 by_cases h:a=b<;>simp[h]
def kvp (p:ByteArray×Value):Value×Value:=(.string p.1,p.2)
structure Ent (es:Array MapEntry) (clock:Nat) (L:List (ByteArray×Value)):Prop where
 kv:es.toList.map (fun e=>(e.key,e.val))=L.map kvp
 keys:(L.map Prod.fst).Nodup
 born:(es.toList.map (·.born)).Nodup
 clock:∀e∈es.toList,e.born<clock
def MapIs (w:World) (m:Nat) (L:List (ByteArray×Value)):Prop:=∃es clock,w.heap[m]?=some (.map es clock)∧Ent es clock L
theorem MapIs.lt {w:World} {m:Nat} {L:List (ByteArray×Value)} (h:MapIs w m L):m<w.heap.size:=by
 obtain⟨es,c,h,_⟩:=h
 exact(Array.getElem?_eq_some_iff.1 h).1
theorem MapIs.fr {C:Nat→Prop} {w w':World} {m:Nat} {L:List (ByteArray×Value)} (h:MapIs w m L) (hf:Fr C w w') (hm:¬C m):MapIs w' m L:=by
 have hl:=h.lt
 obtain⟨es,c,h,h2⟩:=h
 exact⟨es,c,(hf.block m hl hm).trans h,h2⟩
theorem MapIs.made (w:World):MapIs (w.alloc (.map #[] 0)) w.heap.size []:=
 ⟨#[],0,heap_alloc_new w _,by simp,by simp,by simp,by simp⟩
def findIx (k:ByteArray):List (ByteArray×Value)→Nat→Option (Nat×Value)
 |[],_=>none
 |p::L,i=>if p.1=k then some (i,p.2) else findIx k L (i+1)
def mget (L:List (ByteArray×Value)) (k:ByteArray):Option Value:=(findIx k L 0).map (·.2)
def mset (L:List (ByteArray×Value)) (k:ByteArray) (v:Value):List (ByteArray×Value):=
 match findIx k L 0 with
 |some (i,_)=>L.set i (k,v)
 |none=>L++[(k,v)]
def mdel (L:List (ByteArray×Value)) (k:ByteArray):List (ByteArray×Value):=L.filter (fun p=>p.1≠k)
theorem zar (k:ByteArray):∀(es:List MapEntry) (L:List (ByteArray×Value)) (i:Nat),es.map (fun e=>(e.key,e.val))=L.map kvp→
 Instr.findNow .string (.string k) es i=some (findIx k L i)
 |[],[],i,_=>rfl
 |[],_::_,_,h=>by simp at h
 |_::_,[],_,h=>by simp at h
 | e :: es, p :: L, i, h => by
   simp only[List.map_cons,List.cons.injEq,kvp,Prod.mk.injEq] at h
   have ih:=zar k es L (i+1) h.2
   simp only[Instr.findNow,findIx,h.1.1,Instr.sameNow,h.1.2,if_true]
   by_cases hk:p.1=k
   · simp[hk,zaq]
   · have:(k == p.1)=false:=by rw[zaq];exact decide_eq_false fun h=>hk h.symm
     simp only[this,hk,if_false]
     exact ih
theorem z06 {k:ByteArray}:∀{L:List (ByteArray×Value)} {i j:Nat} {v:Value},findIx k L i=some (j,v)→∃n,j=i+n∧L[n]?=some (k,v)
 |[],_,_,_,h=>by simp[findIx] at h
 | p :: L, i, j, v, h => by
   unfold findIx at h
   split at h
   · rename_i hk
     simp only[Option.some.injEq,Prod.mk.injEq] at h
     exact⟨0,by omega,by simp[←hk,←h.2]⟩
   · obtain⟨n,h1,h2⟩:=z06 h
     exact⟨n+1,by omega,by simpa using h2⟩
theorem z07 {k:ByteArray}:∀{L:List (ByteArray×Value)} {i:Nat},findIx k L i=none↔∀p∈L,p.1≠k
 |[],_=>by simp[findIx]
 | p :: L, i => by
   unfold findIx
   split
   · rename_i hk;simp[hk]
   · rename_i hk;simp[hk,z07]
theorem z09:∀(es:List MapEntry) (L:List (ByteArray×Value)) (i:Nat) (k:ByteArray) (v u:Value),es.map (fun e=>(e.key,e.val))=L.map kvp→L[i]?=some (k,u)→
 (es.modify i fun e=>{ e with key:=.string k,val:=v }).map (fun e=>(e.key,e.val))=(L.set i (k,v)).map kvp
 | [], L, i, k, v, u, h, hi => by
   cases L with
   |nil=>simp at hi
   |cons=>simp at h
 |e::es,[],i,k,v,u,h,hi=>by simp at h
 | e :: es, p :: L, 0, k, v, u, h, hi => by
   simp only[List.map_cons,List.cons.injEq] at h
   simp[List.modify_cons,kvp,h.2]
 | e :: es, p :: L, i + 1, k, v, u, h, hi => by
   simp only[List.map_cons,List.cons.injEq] at h
   have:=z09 es L i k v u h.2 (by simpa using hi)
   simp only[List.modify_succ_cons,List.map_cons,List.set_cons_succ,this,h.1]
theorem z0a (es:List MapEntry) (i:Nat) (k v:Value):(es.modify i fun e=>{ e with key:=k,val:=v }).map (·.born)=es.map (·.born):=by
 induction es generalizing i with
 |nil=>simp
 |cons e es ih=>cases i<;>simp[List.modify_cons,ih]
theorem z0b:∀(L:List (ByteArray×Value)) (i:Nat) (k:ByteArray) (v u:Value),L[i]?=some (k,u)→(L.set i (k,v)).map Prod.fst=L.map Prod.fst
 |[],i,k,v,u,h=>by simp at h
 |p::L,0,k,v,u,h=>by simp at h;simp[h]
 |p::L,i+1,k,v,u,h=>by simp[z0b L i k v u (by simpa using h)]
theorem Ent.set {es:Array MapEntry} {c:Nat} {L:List (ByteArray×Value)} (he:Ent es c L) (k:ByteArray) (v:Value) :
 (∀i u,findIx k L 0=some (i,u)→Ent (es.modify i fun e=>{ e with key:=.string k,val:=v }) c (mset L k v))∧
 (findIx k L 0=none→Ent (es.push { key:=.string k,val:=v,born:=c }) (c+1) (mset L k v)):=by
 constructor
 · intro i u hf
   obtain⟨n,h1,h2⟩:=z06 hf
   obtain rfl:i=n:=by omega
   have hms:mset L k v=L.set i (k,v):=by unfold mset;rw[hf]
   rw[hms]
   have hb:=z0a es.toList i (.string k) v
   refine⟨?_,?_,?_,?_⟩
   · rw[Array.toList_modify];exact z09 _ _ _ _ _ _ he.kv h2
   · rw[z0b _ _ _ _ _ h2];exact he.keys
   · rw[Array.toList_modify,hb];exact he.born
   · intro e hm
     rw[Array.toList_modify] at hm
     have hm2:e.born∈(es.toList.map (·.born)):=by rw[←hb];exact List.mem_map.2 ⟨e,hm,rfl⟩
     obtain⟨e',h1,h2⟩:=List.mem_map.1 hm2
     rw[←h2];exact he.clock e' h1
 · intro hf
   have hms:mset L k v=L++[(k,v)]:=by unfold mset;rw[hf]
   rw[hms]
   have hnot:=z07.1 hf
   refine⟨?_,?_,?_,?_⟩
   · simp[he.kv,kvp]
   · rw[List.map_append,List.nodup_append]
     refine⟨he.keys,by simp,?_⟩
     intro a ha b hb
     simp only[List.map_cons,List.map_nil,List.mem_singleton] at hb
     obtain⟨p,h1,rfl⟩:=List.mem_map.1 ha
     rw[hb];exact hnot p h1
   · simp only[Array.toList_push,List.map_append,List.map_cons,List.map_nil,List.nodup_append]
     refine⟨he.born,by simp,?_⟩
     intro a ha b hb
     simp only[List.mem_singleton] at hb
     obtain⟨e,h1,rfl⟩:=List.mem_map.1 ha
     have:=he.clock e h1
     omega
   · intro e hm
     simp only[Array.toList_push,List.mem_append,List.mem_singleton] at hm
     rcases hm with hm|rfl
     · have:=he.clock e hm;omega
     · exact Nat.lt_succ_self _
theorem zas (n:Nat) (k:ByteArray):Instr.sameBits n (.string k) (.string k)=true:=by
 unfold Instr.sameBits;simp[zaq]
theorem zat {P:Program} {w:World} {T K E m:Nat} {L:List (ByteArray×Value)} (hT:P.underlying T=some (.map K E)) (hK:P.underlying K=some .string)
 (h:MapIs w m L) (k:ByteArray) (v:Value) :
 ∃o,(Instr.mapUpdate T (.map (some m)) (.string k) v).run P w=.ok () (World.putObj w m o)∧MapIs (World.putObj w m o) m (mset L k v):=by
 have hl:=h.lt
 obtain⟨es,c,hm,he⟩:=h
 have hf:=zar k es.toList L 0 he.kv
 have hc:∀b,(Instr.checkKey b 10000 K (.string k)).run P w=.ok () w:=by
  intro b;unfold Instr.checkKey;simp[run_underlying hK]
 simp only[Instr.mapUpdate,Sem.run_bind,run_underlying hT,Result.andThen_ok,Go.H.run_getObj_map hm,hc,Instr.findKey,run_underlying hK,hf]
 obtain⟨h1,h2⟩:=he.set k v
 cases hfi:findIx k L 0 with
 | none =>
   refine⟨_,?_,_,_,z02 hl,h2 hfi⟩
   simp only[Sem.run_pure,Result.andThen_ok]
   exact Go.H.run_setObj_map _ hm
 | some q =>
   obtain⟨i,u⟩:=q
   refine⟨_,?_,_,_,z02 hl,h1 i u hfi⟩
   obtain⟨n,hn1,hn2⟩:=z06 hfi
   obtain rfl:i=n:=by omega
   have hkey:((es[i]?).map (·.key)).getD (.string k)=.string k:=by
    have:(es.toList.map (fun e=>(e.key,e.val)))[i]?=(L.map kvp)[i]?:=by rw[he.kv]
    simp only[List.getElem?_map,hn2,Option.map_some,kvp] at this
    cases h:es[i]? with
    |none=>rfl
    | some e =>
      have h':es.toList[i]?=some e:=by simpa using h
      rw[h'] at this
      simp only[Option.map_some,Option.some.injEq,Prod.mk.injEq] at this
      simp[this.1]
   simp only[Sem.run_pure,Result.andThen_ok,hkey,Instr.keyThatStays,zas,if_true]
   exact Go.H.run_setObj_map _ hm
theorem z0e:∀(es:List MapEntry) (L:List (ByteArray×Value)) (i:Nat),es.map (fun e=>(e.key,e.val))=L.map kvp→
 (es.eraseIdx i).map (fun e=>(e.key,e.val))=(L.eraseIdx i).map kvp
 |[],[],_,_=>rfl
 |[],_::_,_,h=>by simp at h
 |_::_,[],_,h=>by simp at h
 |e::es,p::L,0,h=>by simp at h;simpa using h.2
 | e :: es, p :: L, i + 1, h => by
   simp only[List.map_cons,List.cons.injEq] at h
   simp[z0e es L i h.2,h.1]
theorem z0f:∀(L:List (ByteArray×Value)) (i j:Nat) (k:ByteArray) (v:Value),(L.map Prod.fst).Nodup→findIx k L i=some (j,v)→L.eraseIdx (j-i)=mdel L k
 |[],_,_,_,_,_,h=>by simp[findIx] at h
 | p :: L, i, j, k, v, hn, h => by
   simp only[List.map_cons,List.nodup_cons] at hn
   unfold findIx at h
   split at h
   · rename_i hk
     simp only[Option.some.injEq,Prod.mk.injEq] at h
     obtain⟨rfl,_⟩:=h
     have:∀q∈L,q.1≠k:=fun q hq e=>hn.1 (List.mem_map.2 ⟨q,hq,by rw[e,hk]⟩)
     have hf:L.filter (fun q=>q.1≠k)=L:=List.filter_eq_self.2 (fun q hq=>by simpa using this q hq)
     simp[mdel,hk]
     simpa using hf.symm
   · rename_i hk
     obtain⟨n,h1,h2⟩:=z06 h
     have ih:=z0f L (i+1) j k v hn.2 h
     have e1:j-i=(j-(i+1))+1:=by omega
     rw[e1]
     simp only[List.eraseIdx_cons_succ,ih,mdel,List.filter_cons]
     simp[hk]
theorem z0g {L:List (ByteArray×Value)} {k:ByteArray} (h:findIx k L 0=none):mdel L k=L:=
 List.filter_eq_self.2 (fun q hq=>by simpa using z07.1 h q hq)
theorem Ent.del {es:Array MapEntry} {c:Nat} {L:List (ByteArray×Value)} (he:Ent es c L) (k:ByteArray) {i:Nat} {u:Value} (hf:findIx k L 0=some (i,u)) :
 Ent (es.eraseIdxIfInBounds i) c (mdel L k):=by
 have hL:=z0f L 0 i k u he.keys hf
 simp only[Nat.sub_zero] at hL
 obtain⟨n,hn1,hn2⟩:=z06 hf
 obtain rfl:i=n:=by omega
 have hlen:es.toList.length=L.length:=by have:=congrArg List.length he.kv;simpa using this
 have hlt:i<es.size:=by
  have:=(List.getElem?_eq_some_iff.1 hn2).1
  rw[←Array.length_toList,hlen];exact this
 have e:(es.eraseIdxIfInBounds i).toList=es.toList.eraseIdx i:=by
  simp[Array.eraseIdxIfInBounds,hlt]
 refine⟨?_,?_,?_,?_⟩
 · rw[e,←hL];exact z0e _ _ _ he.kv
 · unfold mdel;exact he.keys.sublist (List.Sublist.map _ (List.filter_sublist))
 · rw[e];exact he.born.sublist (List.Sublist.map _ (List.eraseIdx_sublist _ _))
 · intro x hx
   rw[e] at hx
   exact he.clock x (List.mem_of_mem_eraseIdx hx)
theorem run_delete_str {P:Program} {w:World} {T K E m ty:Nat} {L:List (ByteArray×Value)} {ats:Array TypeId} (ha:ats[0]?=some T) (hT:P.underlying T=some (.map K E)) (hK:P.underlying K=some .string)
 (h:MapIs w m L) (k:ByteArray) :
 ∃o,(Builtin.delete_ ats ty #[.map (some m),.string k]).run P w=.ok (.tuple #[]) (World.putObj w m o)∧MapIs (World.putObj w m o) m (mdel L k):=by
 have hl:=h.lt
 obtain⟨es,c,hm,he⟩:=h
 have hf:=zar k es.toList L 0 he.kv
 have hc:∀b,(Instr.checkKey b 10000 K (.string k)).run P w=.ok () w:=by
  intro b;unfold Instr.checkKey;simp[run_underlying hK]
 cases hfi:findIx k L 0 with
 | none =>
   refine⟨.map es c,?_,es,c,z02 hl,by rw[z0g hfi];exact he⟩
   simp[Builtin.delete_,ha,run_underlying hT,Go.H.run_getObj_map hm,hc,Instr.findKey,run_underlying hK,hf,hfi,Go.H.run_setObj_map _ hm]
 | some q =>
   obtain⟨i,u⟩:=q
   refine⟨.map (es.eraseIdxIfInBounds i) c,?_,_,c,z02 hl,he.del k hfi⟩
   simp[Builtin.delete_,ha,run_underlying hT,Go.H.run_getObj_map hm,hc,Instr.findKey,run_underlying hK,hf,hfi,Go.H.run_setObj_map _ hm]
def aget {α:Type} (k:ByteArray):List (ByteArray×α)→Option α
 |[]=>none
 |p::L=>if p.1=k then some p.2 else aget k L
def aset {α:Type} (k:ByteArray) (v:α):List (ByteArray×α)→List (ByteArray×α)
 |[]=>[(k,v)]
 |p::L=>if p.1=k then(k,v)::L else p::aset k v L
theorem z1j (k:ByteArray):∀(L:List (ByteArray×Value)) (i:Nat),findIx k L i=(findIx k L 0).map (fun q=>(q.1+i,q.2))
 |[],_=>rfl
 | p :: L, i => by
   by_cases h:p.1=k
   · simp[findIx,h]
   · simp only[findIx,if_neg h]
     rw[z1j k L (i+1),z1j k L (0+1)]
     cases findIx k L 0<;>simp;omega
theorem z1k (k:ByteArray):∀L:List (ByteArray×Value),mget L k=aget k L
 |[]=>rfl
 | p :: L => by
   by_cases h:p.1=k
   · simp[mget,findIx,aget,h]
   · rw[aget,if_neg h,←z1k k L]
     simp only[mget,findIx,if_neg h]
     rw[z1j k L 1]
     cases findIx k L 0<;>simp
theorem z1l (k:ByteArray) (v:Value):∀L:List (ByteArray×Value),mset L k v=aset k v L
 |[]=>rfl
 | p :: L => by
   by_cases h:p.1=k
   · simp[mset,findIx,aset,h]
   · rw[aset,if_neg h,←z1l k v L]
     simp only[mset,findIx,if_neg h]
     rw[z1j k L 1]
     cases hq:findIx k L 0<;>simp
theorem wp_update {P:Program} {w:World} {o:Oper} {a:Act} {K:Act→World→Prop} {Q:Exit→Act→World→Prop} {T Kt E m:Nat} {L:List (ByteArray×Value)} {k:ByteArray} {v:Value}
 (hT:P.underlying T=some (.map Kt E)) (hK:P.underlying Kt=some .string) (mo ko vo:Operand) (ho:o.op=.mapUpdate T mo ko vo) (hm:a.eval mo=.map (some m)) (hk:a.eval ko=.string k) (hv:a.eval vo=v)
 (h:MapIs w m L) (hw:∀w',MapIs w' m (aset k v L)→Fr (fun b=>b=m) w w'→K (a.put o.dst undef) w'):o.wp P a w K Q:=by
 obtain⟨ob,h1,h2⟩:=zat hT hK h k v
 unfold Oper.wp execOp
 simp only[ho,hm,hk,hv,Sem.run_bind,Sem.run_pure,Result.andThen_ok,h1]
 rw[z1l] at h2
 exact hw _ h2 ((Fr.refl (fun b=>b=m) w).putObj (.inr rfl) ob)
end
end Go.HS
