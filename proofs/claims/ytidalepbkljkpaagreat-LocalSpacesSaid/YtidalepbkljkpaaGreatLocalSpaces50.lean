/- LocalSpaces returns true for every input, and leaves what came in as it was. No condition. -/
import Derived.Test.YtidalepbkljkpaaGreatLocalSpaces49
import Derived.Test.YtidalepbkljkpaaGreatLocalSpaces34
import Derived.Test.YtidalepbkljkpaaGreatLocalSpaces45
set_option linter.all false
namespace Go.Proofs.YtidalepbkljkpaaGreat
section
open Go.RowKit Go.H
set_option maxHeartbeats 2000000
set_option maxRecDepth 100000
def inSp (s:Nat) (x:Chg):Chg:=⟨(s:Int),x.key,x.value,x.gone⟩
theorem zkh {F:Nat→Prop} {w:World} {s:Nat} {xs:List Value} {L:List Chg} (h:ChgCells F w xs L):∀(k:Nat) (hk:k<L.length),ChgCells F w (xs.set (k*4) (.int .i64 (s:Int))) (L.set k (inSp s L[k])):=by
 induction h with
 |nil=>intro k hk;simp at hk
 | @cons x kv vv xs l h1 h2 h3 ih =>
   intro k hk
   cases k with
   | zero =>
     show ChgCells F w (.int .i64 (s:Int)::kv::vv::.bool x.gone::xs) (inSp s x::l)
     exact ChgCells.cons (x:=inSp s x) h1 h2 h3
   | succ k =>
     have:=ih k (by simpa using hk)
     rw[show(k+1)*4=k*4+1+1+1+1 by omega]
     simp only[List.set_cons_succ,List.getElem_cons_succ]
     exact .cons h1 h2 this
theorem zki {F:Nat→Prop} {w:World} {s:Nat} {xs:List Value} {L:List Chg} (k:Nat) (hk:k<L.length) (h:ChgCells F w xs L):ChgCells F w (xs.set (k*4) (.int .i64 (s:Int))) (L.set k (inSp s L[k])):=zkh h k hk
theorem zkj {α:Type} (f:α→α) {M:List α} {k:Nat} (hk:k<M.length):((M.take k).map f++M.drop k).set k (f M[k])=(M.take (k+1)).map f++M.drop (k+1):=by
 have h1:M.drop k=M[k]::M.drop (k+1):=(List.getElem_cons_drop hk).symm
 have h2:((M.take k).map f).length=k:=by rw[List.length_map,List.length_take];omega
 rw[h1,List.set_append_right _ _ (by omega),h2,Nat.sub_self,List.set_cons_zero,List.take_succ_eq_append_getElem hk,List.map_append,List.append_assoc]
 rfl
theorem zkk {w:World} {v cv:Value} {l:List Act6} {C:List Chg} {x:Int} (hl:ActsL w v l) (hC:ChgR (fun _=>True) (fun _=>True) w cv C) :
 Calls Tryz.prog 6 #[v,cv,.int .i64 x] w fun e w'=>e=.returned (.bool true)∧Fr C0 w w':=by
 have HL:=zhd hl
 have HC:=zhd hC
 obtain⟨A,cp,rfl,hlc,hcm⟩:=hl.form
 obtain⟨CA,cc,rfl,-⟩:=hC.form
 unfold maxLen at hcm
 have HN:=zhd (z3g w 700 (by omega) (by omega))
 have hmask:bits .and .i64 x 15=x % 16:=zg0 x 4 15 (by omega) rfl
 obtain⟨s,hs,hs16⟩:∃s:Nat,x % 16=(s:Int)∧s<16:=⟨(x % 16).toNat,by omega,by omega⟩
 rw[hs] at hmask
 clear hl hs hC
 go_enter Tryz.func6,Tryz.ntmps6
 go_wp2_with fail
 refine HN.out.mono ?_
 rintro e w1 ⟨rfl,f1,hs1,hd1⟩
 obtain⟨c1,hc1,hc2,hag,hcl⟩:=zjq (c:=fun _=>0) (fun _ _=>rfl) f1 hs1
 have HO:=zhd (zjp (n:=700) f1 hag (hd1.mono fun b hb _=>hb.elim) hc1 hc2 hcl (by omega) (by omega))
 clear HN f1 hs1 hd1 hc1 hc2 hag hcl
 go_wp2_with fail
 refine HO.out.mono ?_
 rintro e w2 ⟨sp,rfl,H2⟩
 obtain⟨-,c2,-,l2⟩:=H2.out
 have L2:=zhd l2
 clear H2 HO l2
 go_wp2_with fail
 go_loopw [11] (fun i wr=>∃k:Nat,k≤l.length∧k≤15∧i=.int .i64 (k:Int)∧Hid (∃La pos N c,LSt w 698 (w.heap.size+1) sp La pos N c wr∧N≤k∧La.length≤9*k)) (fun i _=>l.length-(intOf i).toNat)
 case atStart=>exact⟨0,Nat.zero_le _,Nat.zero_le _,rfl,zhd ⟨[],0,0,c2,L2.out,Nat.le_refl _,Nat.le_refl _⟩⟩
 case round=>
  obtain⟨k,hk,hk15,rfl,HH⟩:=hrel
  go_upto_region 8 with fail
  go_cut [51] (fun b wx=>b=.bool (decide (k<l.length) && decide (k<15))∧wx=wr)
  case first=>
   by_cases hlt:k<l.length
   · by_cases hl30:k<15
     · have hl30i:(k:Int)<15:=by omega
       go_wp2_with fail
       go_meet
       case rel=>exact⟨by simp[hlt,hl30],rfl⟩
     · obtain rfl:k=15:=by omega
       go_wp2_with fail
       go_meet
       case rel=>exact⟨by simp,rfl⟩
   · obtain rfl:k=l.length:=by omega
     go_wp2_with fail
     go_meet
     case rel=>exact⟨by simp,rfl⟩
  case rest=>
   obtain⟨rfl,rfl⟩:=hcut
   obtain⟨La,pos,N,c,hst,hNk,hLk⟩:=HH.out
   have HST:=zhd hst
   by_cases hgo:k<l.length∧k<15
   · obtain⟨hlt,hl30⟩:=hgo
     have hb:(decide (k<l.length) && decide (k<15))=true:=by simp[hlt,hl30]
     rw[hb]
     clear hb
     obtain⟨g,o,av,rfl,ha⟩:=(HL.out.fr0 hst.fr).at_ k hlt
     generalize l[k]=y at *
     have a2:=ha.c2
     have HCS:=zhd ha.cs
     obtain⟨AA,ac,rfl,-⟩:=ha.cs.form
     have HPOS:=zhd (fun (w_:World) (hf:Fr C0 wc w_)=>ziz (hst.fr0 hf))
     have hposlt:=hst.ok.lt
     clear ha hst HH
     go_wp2_with fail
     refine z1z (Fr C0 wc) [9] (by kernel_rfl) ?_
     have hSw0:(Fr C0 wc) _:=(Fr.refl C0 wc).drew
     refine tk 0 hSw0 ?_
     refine tk 1 hSw0 ?_
     refine tk 3 hSw0 ?_
     refine tk 4 hSw0 ?_
     refine tk 5 hSw0 ?_
     refine tk 6 hSw0 ?_
     refine tk 7 hSw0 ?_ (hy:=by intro w_ hS_;have b0:=hS_.cell0 a2;first|(go_simp;done)|(go_simp;with_reducible rfl))
     refine one_ 2 rfl (fun K hK=>?_)
     go_simp
     refine(HPOS.out _ (Fr.refl C0 wc).drew).mono ?_
     rintro e w3 ⟨rfl,hw3⟩
     subst hw3
     simp only[]
     refine hK.out _ _ ?kS1 (fun hSw1=>?kR1)
     case kS1=>exact(Fr.refl C0 wc).drew
     clear hK K
     try simp only[Act.put,zs1,zs2,zs3]
     refine one_ 8 rfl (fun K hK=>?_)
     go_simp
     refine(zj3 (HCS.out.fr0 (Fr.refl C0 wc).drew)).mono ?_
     rintro e w4 ⟨ov,rfl,H4⟩
     have F4:=zhd ((Fr.refl C0 wc).drew.trans0 H4.out.1)
     have O4:=zhd H4.out.2
     simp only[]
     refine hK.out _ _ ?kS2 (fun hSw2=>?kR2)
     case kS2=>exact F4.out
     clear hK K
     try simp only[Act.put,zs1,zs2,zs3]
     refine z1v 9 rfl (fun K hK=>?_)
     go_simp
     refine(zk0 (HST.out.fr0 F4.out) O4.out (fun b hb=>HST.out.cl b hb) (by rw[List.length_map,List.length_take];omega) (by omega) (by omega) (by omega)).mono ?_
     rintro e w5 ⟨err,rfl,H5⟩
     simp only[]
     refine hK.out _ _ ?_;clear hK K
     try simp only[Act.put,zs1,zs2,zs3]
     refine z1y (by kernel_rfl) ?_ _
     have HNX:Hid (∃La' pos' N' c',LSt w 698 (w.heap.size+1) sp La' pos' N' c' w5∧N'≤k+1∧La'.length≤9*(k+1)):=zhd (by
      obtain⟨La',pos',N',c',h1,-,-,h2,h3⟩:=H5.out.any (HST.out.fr0 F4.out)
      rw[List.length_map,List.length_take] at h2
      exact⟨La',pos',N',c',h1,by omega,by omega⟩)
     clear H5 F4 O4
     go_wp2_with fail
     go_roundw
     case rel=>exact⟨k+1,by omega,by omega,by go_num,HNX⟩
     case measure=>simp[intOf];omega
   · have hb:(decide (k<l.length) && decide (k<15))=false:=by simpa using hgo
     rw[hb]
     clear hb hgo HH HL L2
     have HCH:=zhd (zj3 (HC.out.fr0 hst.fr))
     have hcl0:=zhd hst.cl
     clear hst HC
     go_wp2_with fail
     refine HCH.out.mono ?_
     rintro e w3 ⟨ov,rfl,H3⟩
     have S3:=zhd (HST.out.fr0 H3.out.1)
     have hml:((C.take 8).map cutC).length≤8:=by rw[List.length_map,List.length_take];omega
     have O3:=zhd H3.out.2
     generalize (C.take 8).map cutC=M at *
     obtain⟨OA,oc,rfl⟩:=O3.out.form
     have hsz3:=H3.out.1.size
     have HSZ3:=zhd hsz3
     have FO3:=zhd H3.out.1
     clear HCH H3 hsz3 S3
     go_wp2_with fail
     obtain⟨wo,rfl⟩:∃wo:World,wo=wc:=⟨_,rfl⟩
     go_loopw [13] (fun i wr=>∃m:Nat,m≤M.length∧i=.int .i64 (m:Int)∧Hid (Fr (fun b=>(Value.slice OA M.length oc).ownBlock=some b) w3 wr)∧Hid (∃ys,wr.ownsRow wo.heap.size 57 4 (.slice OA M.length oc) M.length ys∧ChgCells (fun b=>wo.heap.size≤b∧¬(Value.slice OA M.length oc).ownBlock=some b) wr ys ((M.take m).map (inSp s)++M.drop m))) (fun i _=>M.length-(intOf i).toNat)
     case atStart=>exact⟨0,Nat.zero_le _,rfl,zhd (Fr.refl _ _),zhd O3.out⟩
     case round=>
      obtain⟨m,hm,rfl,HF,HR⟩:=hrel
      by_cases hlm:m<M.length
      · obtain⟨ys,ho,hy⟩:=HR.out
        have hlen:((M.take m).map (inSp s)++M.drop m).length=M.length:=by simp;omega
        have hyl:ys.length=M.length*4:=by rw[hy.length,hlen]
        obtain⟨A',c',e',hA'⟩:=z0o ho
        injection e' with e1 e2 e3
        subst e1 e3
        obtain⟨g,rfl⟩:∃g,OA=some ⟨g,0,none⟩:=by
         cases OA with
         | none =>
           rcases ho.2 with⟨e,h0⟩|⟨g,cap,cur,e,-⟩
           · omega
           · cases e
         |some a=>obtain⟨g,rfl⟩:=hA' a rfl;exact⟨g,rfl⟩
        obtain⟨cur,hg⟩:∃cur,wr.heap[g]?=some (.cells cur 57 (0,0)):=by
         rcases ho.2 with⟨e,-⟩|⟨g',cap,cur,e,-,hg,-⟩
         · cases e
         · injection e with e
           injection e with e
           injection e with e
           subst e
           exact⟨cur,hg⟩
        have z0:=z2i (m*4) hg
        have t0:∃u,wr.cell? ⟨g,m*4,none⟩=some u:=by
         obtain⟨u,hu⟩:∃u,ys[m*4]?=some u:=⟨ys[m*4]'(by omega),List.getElem?_eq_getElem (by omega)⟩
         have h1:=ho.cells (g:=g) rfl (m*4) u hu
         rw[show(⟨g,0,none⟩:Addr).add (m*4)=⟨g,m*4,none⟩ from by unfold Addr.add;split<;>simp_all] at h1
         exact⟨u,h1⟩
        obtain⟨u0,t0⟩:=t0
        have fs:=(Fr.refl (fun b=>b=g) wr).setCell (p:=⟨g,m*4,none⟩) (.inr rfl) (.int .i64 (s:Int))
        have ho2:=z8l (j:=m*4) (u:=.int .i64 (s:Int)) ho (by omega)
        have hy2:=zki (s:=s) m (by omega) hy
        have hgm:((M.take m).map (inSp s)++M.drop m)[m]'(by omega)=M[m]:=by
         rw[List.getElem_append_right (by simp;omega)]
         simp[List.length_map,List.length_take]
         congr 1
         omega
        rw[hgm,zkj (inSp s) hlm] at hy2
        have H2:=zhd ho2
        have Y2:=zhd (hy2.fr fs (fun b hb e=>hb.2 (by rw[show b=g from e];rfl)))
        have F2:=zhd (HF.out.trans fs (fun b hb e=>by rw[show b=g from e];rfl))
        clear ho hy hlen hA' hg fs ho2 hy2 hgm hyl HR O3
        go_wp2_with fail
        go_roundw
        case rel=>exact⟨m+1,by omega,by go_num,F2,zhd ⟨_,H2.out,Y2.out⟩⟩
        case measure=>simp[intOf];omega
      · obtain rfl:m=M.length:=by omega
        have hR:=HR.out
        rw[List.take_length,List.drop_length,List.append_nil] at hR
        have hO4:OutC wo.heap.size wr (.slice OA M.length oc) (M.map (inSp s)):=by
         obtain⟨ys,a,b⟩:=hR
         exact⟨ys,by rw[List.length_map];exact a,b⟩
        have hown:∀b,(Value.slice OA M.length oc).ownBlock=some b→wo.heap.size≤b:=fun b e=>by
         obtain⟨ys,a,-⟩:=hO4
         exact(a.lt b e).1
        have F4:=zhd (FO3.out.transO HF.out hown)
        have S4:=zhd (HST.out.fr0 F4.out)
        have hin:∀x∈M.map (inSp s),x.space=(s:Int):=fun x hx=>by
         obtain⟨y,-,rfl⟩:=List.mem_map.1 hx
         rfl
        have hIl:M.length=(M.map (inSp s)).length:=by rw[List.length_map]
        rw[hIl] at hO4⊢
        generalize M.map (inSp s)=I at *
        have HIN:=zhd hin
        have O4:=zhd hO4
        have hIl8:I.length≤8:=by omega
        have HE:=zhd (zj2 S4.out (by omega))
        have hposlt:=S4.out.ok.lt
        clear hR HR hO4 hown hin HF O3 FO3
        go_wp2_with fail
        refine HE.out.mono ?_
        rintro e w5 ⟨A5,p5,rfl,H5⟩
        have S5:=zhd (S4.out.fr0 H5.out.1)
        have O5:=zhd (O4.out.fr0 H5.out.1)
        have hsz5:=F4.out.size
        have WAS:=zhd ((zjt H5.out.2).mono (F':=fun b=>c b=0) (fun b hb _=>hcl0.out b (by omega)))
        clear HE H5 S4 O4
        go_wp2_with fail
        refine(ziz S5.out).mono ?_
        rintro e w6 ⟨rfl,rfl⟩
        go_wp2_with fail
        refine(zk0 S5.out O5.out (fun b hb=>hcl0.out b hb) (by omega) (by omega) (by omega) (by omega)).mono ?_
        rintro e w6 ⟨err,rfl,H6⟩
        obtain⟨La',pos',N',c6,f6,l6,hoth,hz⟩:∃La' pos' N' c6,Fr (OwnL c) w5 w6∧LSt w 698 (w.heap.size+1) sp La' pos' N' c6 w6∧othL s La'=othL s La∧((err≠0∧La'=La)∨(err=0∧(∀x∈I,okC x∧x.space=(s:Int))∧La'=appL La I pos)):=by
         rcases H6.out with⟨h,-⟩|⟨-,⟨h1,h2,f⟩|⟨h1,c6,-,f,⟨-,-,h⟩|⟨h2,l6⟩⟩⟩
         · omega
         · exact⟨La,pos,N,c,f.mono (fun _ _ e=>e.elim),S5.out.fr0 f,rfl,.inl ⟨by rw[h2];exact h1,rfl⟩⟩
         · omega
         · have hk:∀x∈I,okC x∧x.space=(s:Int):=fun x hx=>⟨zft h1 x hx,HIN.out x hx⟩
           rw[show((pos:Int)).toNat=pos from by omega] at l6
           exact⟨_,_,_,c6,f,l6,zjm hs16 I hk,.inr ⟨h2,hk,rfl⟩⟩
        have hd6:∀b,c b=0→¬OwnL c b:=fun b h=>zjz h
        have W6:=zhd (WAS.out.fr f6 hd6)
        have S6:=zhd l6
        have R6:=zhd ((zjy (P:=fun b=>c b=0) (Q:=fun b=>c b=0) O5.out (fun b hb _=>hcl0.out b hb) (fun b hb _=>hcl0.out b hb)).fr f6 hd6 hd6)
        have HOTH:=zhd hoth
        have HZ:=zhd hz
        have hLa':La'.length≤500:=by
         rcases hz with⟨-,rfl⟩|⟨-,hk,rfl⟩
         · omega
         · have:=zk1 (La:=La) (pos:=pos) (fun x hx=>(hk x hx).1)
           omega
        have HE2:=zhd (zj2 l6 (by omega))
        have HLOK:=zhd S5.out.ok
        clear H6 f6 l6 hoth hz hd6 WAS S5 O5
        go_wp2_with fail
        refine HE2.out.mono ?_
        rintro e w7 ⟨A7,p7,rfl,H7⟩
        have S7:=zhd (S6.out.fr0 H7.out.1)
        have W7:=zhd (W6.out.fr0 H7.out.1)
        have R7:=zhd (R6.out.fr0 H7.out.1)
        have NOW:=zhd (zjt H7.out.2)
        clear HE2 H7 S6 W6 R6
        have HOA:=zhd (zjn (s:=s) W7.out (by
         rw[List.length_map]
         have:(expL La).length≤La.length:=List.length_filter_le _ _
         omega))
        go_wp2_with fail
        refine HOA.out.mono ?_
        rintro e w8 ⟨A8,p8,rfl,H8⟩
        have S8:=zhd (S7.out.fr0 H8.out.1)
        have W8:=zhd (W7.out.fr0 H8.out.1)
        have R8:=zhd (R7.out.fr0 H8.out.1)
        have NOW8:=zhd (NOW.out.fr0 H8.out.1)
        have P8:=zhd H8.out.2
        have HOB:=zhd (zjn (s:=s) NOW8.out (by
         rw[List.length_map]
         have:(expL La').length≤La'.length:=List.length_filter_le _ _
         omega))
        clear HOA H8 S7 W7 R7 NOW
        have ho1:((expL La).map spK).filter (fun y=>decide (y.1≠(s:Int)))=othL s La:=rfl
        have ho2:((expL La').map spK).filter (fun y=>decide (y.1≠(s:Int)))=othL s La:=HOTH.out
        rw[ho1] at P8⊢
        rw[ho2] at HOB
        clear ho1 ho2
        go_wp2_with fail
        refine HOB.out.mono ?_
        rintro e w9 ⟨A9,p9,rfl,H9⟩
        have S9:=zhd (S8.out.fr0 H9.out.1)
        have W9:=zhd (W8.out.fr0 H9.out.1)
        have R9:=zhd (R8.out.fr0 H9.out.1)
        have NOW9:=zhd (NOW8.out.fr0 H9.out.1)
        have HSM:=zhd (ziu (P8.out.fr0 H9.out.1) H9.out.2)
        clear HOB H9 S8 W8 R8 NOW8 P8
        go_wp2_with fail
        refine HSM.out.mono ?_
        rintro e w10 ⟨rfl,f10⟩
        have S10:=zhd (S9.out.fr0 f10)
        have W10:=zhd (W9.out.fr0 f10)
        have R10:=zhd (R9.out.fr0 f10)
        have NOW10:=zhd (NOW9.out.fr0 f10)
        clear HSM f10 S9 W9 R9 NOW9
        by_cases herr:err=0
        · have HK:Hid ((∀x∈I,okC x∧x.space=(s:Int))∧La'=appL La I pos):=zhd (by
           rcases HZ.out with⟨h,-⟩|⟨-,h⟩
           · exact absurd herr h
           · exact h)
          subst herr
          clear HZ NOW10 W10
          go_wp2_with fail
          go_loopw [21] (fun i wr=>∃m:Nat,m≤I.length∧i=.int .i64 (m:Int)∧Hid (Fr C0 w10 wr)) (fun i _=>I.length-(intOf i).toNat)
          case atStart=>exact⟨0,Nat.zero_le _,rfl,zhd (Fr.refl _ _)⟩
          case round=>
           obtain⟨m,hm,rfl,HF⟩:=hrel
           by_cases hlm:m<I.length
           · obtain⟨g,o,ku,vu,hOA,hg,a0,a1,a2,a3,a4,a5⟩:=(R10.out.fr0 HF.out).at_ m hlm
             subst hOA
             have hIm:=HK.out.1 I[m] (List.getElem_mem hlm)
             generalize hx:I[m]=x at *
             have HXM:=zhd (show ∃h:m<I.length,I[m]=x from⟨hlm,hx⟩)
             have hkey:=zfu hIm.1
             have hxsp:=hIm.2
             obtain⟨xs,xk,xv,xg⟩:=x
             dsimp only at a0 a1 a2 a3 a4 a5 hkey hxsp
             subst hxsp
             have HK4:=zhd a4
             have HV5:=zhd a5
             obtain⟨KA,kc,rfl,-⟩:=a4.form
             obtain⟨VA,vc,rfl,-⟩:=a5.form
             obtain⟨W1,hW1⟩:∃W1,W1=wr.alloc (.cells #[.int .i64 (s:Int),.slice KA xk.length kc,.slice VA xv.length vc,.bool xg] 57):=⟨_,rfl⟩
             have f1:Fr C0 wr W1:=by rw[hW1];exact(Fr.refl C0 wr).alloc _
             have hb1:W1.heap[wr.heap.size]?=some (.cells #[.int .i64 (s:Int),.slice KA xk.length kc,.slice VA xv.length vc,.bool xg] 57 (0,0)):=by rw[hW1];exact heap_alloc_new wr _
             have HW1:=zhd hW1
             have F1:=zhd f1
             have HB1:=zhd hb1
             have HA1:=zhd a1
             clear hW1 f1 hb1 a4 a5 hx hIm
             go_wp2_with fail
             rw[←HW1.out]
             clear a0 a2 a3
             obtain⟨wq,rfl⟩:∃wq:World,wq=wr:=⟨_,rfl⟩
             have RQ:=zhd ((R10.out.fr0 HF.out).mono (F':=fun b=>b<wq.heap.size) (G':=fun b=>b<wq.heap.size) (fun b _ h=>h) (fun b _ h=>h))
             have hgl:=World.block_lt_of_cell? wq _ HA1.out
             have HGL:Hid (g<wq.heap.size):=zhd hgl
             have HVQ:=zhd (HV5.out.mono (F':=fun b=>b<wq.heap.size) (fun b _ h=>h))
             have HKQ:=zhd (HK4.out.mono (F':=fun b=>b<wq.heap.size) (fun b _ h=>h))
             clear hgl HK4 HV5
             go_loopw [23] (fun i wi=>∃j:Nat,m≤j∧j≤I.length∧i=.int .i64 (j:Int)∧Hid (Fr (fun b=>b=wq.heap.size) W1 wi)∧Hid (∃y A1 n1 p1 A2 n2 p2,wi.heap[wq.heap.size]?=some (.cells #[.int .i64 y.space,.slice A1 n1 p1,.slice A2 n2 p2,.bool y.gone] 57 (0,0))∧BytesAt (fun b=>b<wq.heap.size) wi (.slice A2 n2 p2) y.value∧((j=m∧y=⟨(s:Int),xk,xv,xg⟩)∨lastK ((I.drop m).take (j-m)) xk=some y))) (fun i _=>I.length-(intOf i).toNat)
             case atStart=>exact⟨m,Nat.le_refl _,by omega,rfl,zhd (Fr.refl _ _),zhd ⟨⟨(s:Int),xk,xv,xg⟩,_,_,_,_,_,_,HB1.out,HVQ.out.fr0 F1.out,.inl ⟨rfl,rfl⟩⟩⟩
             case round=>
              obtain⟨j,hmj,hj,rfl,HFI,HY⟩:=hrel
              have hd:∀b,b<wq.heap.size→¬b=wq.heap.size:=fun b h e=>by omega
              by_cases hjl:j<I.length
              · obtain⟨g',o',ku',vu',hOA,hg',b0,b1,b2,b3,b4,b5⟩:=((RQ.out.fr0 F1.out).fr HFI.out hd hd).at_ j hjl
                injection hOA with hOA
                injection hOA with hO1 hO2
                subst hO1 hO2
                have htk:(I.drop m).take (j+1-m)=(I.drop m).take (j-m)++[I[j]]:=by
                 have h1:j-m<(I.drop m).length:=by rw[List.length_drop];omega
                 rw[show j+1-m=(j-m)+1 by omega,List.take_succ_eq_append_getElem h1,List.getElem_drop]
                 congr 3
                 omega
                have hjm:j=m→I[j].key=xk:=fun e=>by
                 subst e
                 obtain⟨h,e⟩:=HXM.out
                 rw[e]
                generalize I[j]=z at *
                obtain⟨zs,zk,zv,zg⟩:=z
                dsimp only at b0 b1 b2 b3 b4 b5 hjm
                have HTK:=zhd htk
                have HJM:=zhd hjm
                clear hjm
                have am:=HFI.out.cell (F1.out.cell0 HA1.out) (hd _ HGL.out)
                obtain⟨x1,y1,sa,sb,E1⟩:=str2 b4 ((HKQ.out.fr0 F1.out).fr HFI.out hd)
                have HB4:=zhd b4
                have HB5:=zhd b5
                obtain⟨KZ,kz,rfl,-⟩:=b4.form
                obtain⟨VZ,vz,rfl,-⟩:=b5.form
                obtain⟨y,A1,n1,p1,A2,n2,p2,hblk,hyv,hyl⟩:=HY.out
                have HYV:=zhd hyv
                have HYL:=zhd hyl
                have HBLK:=zhd hblk
                clear b4 b5 htk hyv hyl hblk HY a1
                go_wp2_with fail
                by_cases hkk:zk=xk
                · have e1:=E1.out.trans (decide_eq_true hkk)
                  have HKK:=zhd hkk
                  clear hkk
                  have m0:=z2k HBLK.out 0 rfl
                  have m1:=z2k HBLK.out 1 rfl
                  have m2:=z2k HBLK.out 2 rfl
                  have m3:=z2k HBLK.out 3 rfl
                  have z0:=z2i 0 HBLK.out
                  have z1:=z2i 1 HBLK.out
                  have z2:=z2i 2 HBLK.out
                  have z3:=z2i 3 HBLK.out
                  refine z1z (Fr C0 wr) [] (by kernel_rfl) ?_
                  have hSw0:(Fr C0 wr) _:=(Fr.refl C0 wr).drew
                  refine tk 0 hSw0 ?_
                  refine tk 1 hSw0 ?_
                  refine tk 2 hSw0 ?_
                  refine tk 3 hSw0 ?_
                  refine tk 4 hSw0 ?_
                  refine tk 5 hSw0 ?_ (hy:=by intro w_ hS_;have c1_:=hS_.cell0 b1;have c2_:=hS_.cell0 am;first|(go_simp;done)|(go_simp;with_reducible rfl))
                  refine tk 6 hSw0 ?_ (hy:=by intro w_ hS_;have k3:=sa.out _ hS_;have k4:=sb.out _ hS_;first|(go_simp;done)|(go_simp;with_reducible rfl))
                  refine tk 7 hSw0 ?_
                  refine tk 8 hSw0 ?_
                  refine tk 9 hSw0 ?_
                  refine tk 10 hSw0 ?_
                  refine tk 11 hSw0 ?_
                  refine tk 12 hSw0 ?_ (hy:=by intro w_ hS_;have c1_:=hS_.cell0 b1;have c2_:=hS_.cell0 am;first|(go_simp;done)|(go_simp;with_reducible rfl))
                  refine tk 13 hSw0 ?_ (hy:=by intro w_ hS_;have k3:=sa.out _ hS_;have k4:=sb.out _ hS_;first|(go_simp;done)|(go_simp;with_reducible rfl))
                  refine tk 14 hSw0 ?_
                  refine z1y (by kernel_rfl) ?_ _
                  go_wp2_with fail
                  go_roundw
                  case rel=>
                   have hb':=z2j (i:=3) (z2j (i:=2) (z2j (i:=1) (z2j (i:=0) HBLK.out (.int .i64 zs)) (.slice KZ zk.length kz)) (.slice VZ zv.length vz)) (.bool zg)
                   have fs:=((((Fr.refl (fun b=>b=wq.heap.size) wr).setCell (p:=⟨wq.heap.size,0,none⟩) (.inr rfl) (.int .i64 zs)).setCell (p:=⟨wq.heap.size,1,none⟩) (.inr rfl) (.slice KZ zk.length kz)).setCell (p:=⟨wq.heap.size,2,none⟩) (.inr rfl) (.slice VZ zv.length vz)).setCell (p:=⟨wq.heap.size,3,none⟩) (.inr rfl) (.bool zg)
                   exact⟨j+1,by omega,by omega,by go_num,zhd (HFI.out.trans fs.drew (fun _ _ e=>e)),zhd ⟨⟨zs,zk,zv,zg⟩,_,_,_,_,_,_,hb',HB5.out.fr fs.drew (fun b h e=>by have e2:b=wq.heap.size:=e;omega),.inr (by rw[HTK.out,zjh,if_pos HKK.out])⟩⟩
                  case measure=>simp[intOf];omega
                · have e1:=E1.out.trans (decide_eq_false hkk)
                  have HKK:=zhd hkk
                  clear hkk
                  refine z1z (Fr C0 wr) [] (by kernel_rfl) ?_
                  have hSw0:(Fr C0 wr) _:=(Fr.refl C0 wr).drew
                  refine tk 0 hSw0 ?_
                  refine tk 1 hSw0 ?_
                  refine tk 2 hSw0 ?_
                  refine tk 3 hSw0 ?_
                  refine tk 4 hSw0 ?_
                  refine tk 5 hSw0 ?_ (hy:=by intro w_ hS_;have c1_:=hS_.cell0 b1;have c2_:=hS_.cell0 am;first|(go_simp;done)|(go_simp;with_reducible rfl))
                  refine tk 6 hSw0 ?_ (hy:=by intro w_ hS_;have k3:=sa.out _ hS_;have k4:=sb.out _ hS_;first|(go_simp;done)|(go_simp;with_reducible rfl))
                  refine tk 7 hSw0 ?_
                  refine tk 8 hSw0 ?_
                  refine tk 9 hSw0 ?_
                  refine tk 10 hSw0 ?_
                  refine tk 11 hSw0 ?_
                  refine tk 12 hSw0 ?_ (hy:=by intro w_ hS_;have c1_:=hS_.cell0 b1;have c2_:=hS_.cell0 am;first|(go_simp;done)|(go_simp;with_reducible rfl))
                  refine tk 13 hSw0 ?_ (hy:=by intro w_ hS_;have k3:=sa.out _ hS_;have k4:=sb.out _ hS_;first|(go_simp;done)|(go_simp;with_reducible rfl))
                  refine tk 14 hSw0 ?_
                  refine z1y (by kernel_rfl) ?_ _
                  go_wp2_with fail
                  go_roundw
                  case rel=>exact⟨j+1,by omega,by omega,by go_num,zhd HFI.out.drew,zhd ⟨y,A1,n1,p1,A2,n2,p2,HBLK.out,HYV.out,by
                   rw[HTK.out,zjh,if_neg HKK.out]
                   rcases HYL.out with⟨rfl,h⟩|h
                   · exact absurd (HJM.out rfl) HKK.out
                   · exact .inr h⟩⟩
                  case measure=>simp[intOf];omega
              · obtain rfl:j=I.length:=by omega
                obtain⟨y,A1,n1,p1,A2,n2,p2,hblk,hyv,hyl⟩:=HY.out
                have hyk:lastK (I.drop m) xk=some y:=by
                 rcases hyl with⟨h,-⟩|h
                 · omega
                 · rw[List.take_of_length_le (by rw[List.length_drop];exact Nat.le_refl _)] at h
                   exact h
                have hyI:lastK I xk=some y:=by
                 have:=zji xk (I.drop m) hyk (I.take m)
                 rwa [List.take_append_drop] at this
                have hget:=zjk (pos:=pos) hs16 HLOK.out.so HLOK.out.keys I HK.out.1 hyI
                rw[←HK.out.2] at hget
                have hr0:rightL (s:Int) xk [] false=0:=by
                 unfold rightL
                 rw[if_neg (by rintro(e|e|⟨e,-⟩);omega;omega;rw[e] at hkey;simp at hkey),if_neg (by simp;omega)]
                have FIN:=zhd ((HF.out.trans0 F1.out).trans HFI.out (fun b hb e=>by have e2:b=wq.heap.size:=e;have:=HF.out.size;omega):Fr C0 w10 wr)
                have am:=HFI.out.cell (F1.out.cell0 HA1.out) (hd _ HGL.out)
                have HG:=zhd (zjr (s:=(s:Int)) (S10.out.fr0 FIN.out) ((HKQ.out.fr0 F1.out).fr HFI.out hd))
                rw[Int.toNat_natCast,hget,hr0] at HG
                have HYV:=zhd hyv
                have m2:=z2k hblk 2 rfl
                have m3:=z2k hblk 3 rfl
                obtain⟨ys,yk,yv,yg⟩:=y
                dsimp only at m3 HYV
                clear hyv hyl hyk hyI hget hr0 HY a1
                cases yg with
                | true =>
                  clear hblk
                  go_wp2_with fail
                  refine HG.out.mono ?_
                  rintro e w11 ⟨A11,m11,p11,rfl,H11⟩
                  have t3:=H11.out.1.cell0 m3
                  have F11:=zhd (FIN.out.trans0 H11.out.1)
                  clear H11 HG m2
                  go_wp2_with fail
                  go_roundw
                  case rel=>exact⟨m+1,by omega,by go_num,F11⟩
                  case measure=>simp[intOf];omega
                | false =>
                  clear hblk
                  have HG2:Hid (Calls Tryz.prog 29 #[.pointer (some ⟨sp,0,none⟩),.int .i64 (s:Int),.slice KA xk.length kc] wr fun e w'=>∃A m p,e=.returned (.tuple #[.slice A m p,.bool true,.int .i64 0])∧Fr C0 wr w'∧BytesAt (fun b=>wr.heap.size≤b) w' (.slice A m p) yv):=zhd (HG.out.mono (by
                   rintro e w' ⟨A',m',p',rfl,H⟩
                   exact⟨A',m',p',rfl,H.out.1,H.out.2 rfl yv rfl⟩))
                  clear HG
                  go_wp2_with fail
                  refine HG2.out.mono ?_
                  rintro e w11 ⟨A11,m11,p11,rfl,f11,b11⟩
                  have t2:=f11.cell0 m2
                  have t3:=f11.cell0 m3
                  have F11:=zhd (FIN.out.trans0 f11)
                  obtain⟨x2,y2,sv,sy,E2⟩:=str2 b11 (HYV.out.fr0 f11)
                  have k3:=sv.out _ (Fr.refl C0 w11)
                  have k4:=sy.out _ (Fr.refl C0 w11)
                  have e2:=E2.out.trans (by simp:_=true)
                  clear HG2 m2 m3 f11 b11
                  go_wp2_with fail
                  go_roundw
                  case rel=>exact⟨m+1,by omega,by go_num,F11⟩
                  case measure=>simp[intOf];omega
           · obtain rfl:m=I.length:=by omega
             go_wp2_with fail
             refine(zjx wr).mono ?_
             rintro e w11 ⟨rfl,f11⟩
             have F11:=zhd ((S10.out.fr.trans0 HF.out).trans0 f11)
             clear f11
             go_wp2_with fail
             go_ret
             exact⟨rfl,F11.out⟩
        · have hr1:((err:Int) != 0)=true:=by simp[bne,z32];omega
          obtain rfl:La'=La:=by
           rcases HZ.out with⟨-,h⟩|⟨h,-⟩
           · exact h
           · exact absurd h herr
          clear HZ R10
          go_wp2_with fail
          refine(zjx w10).mono ?_
          rintro e w11 ⟨rfl,f11⟩
          have HSM:=zhd (ziu (W10.out.fr0 f11) (NOW10.out.fr0 f11))
          have F11:=zhd (S10.out.fr.trans0 f11)
          clear f11 W10 NOW10
          go_wp2_with fail
          refine HSM.out.mono ?_
          rintro e w12 ⟨rfl,f12⟩
          have F12:=zhd (F11.out.trans0 f12)
          clear f12
          go_wp2_with fail
          go_ret
          exact⟨rfl,F12.out⟩
end
section
open Go.RowKit Go.H Go.ChangeShapes Go.WideShapes Go.ChangeAt Go.Deep
set_option maxRecDepth 100000 in
theorem zkl (os:Os) (started:os.Started) (H:Type) (enc:TypeId×Value→H) :
 ReturnsInHanded {} Tryz.checked os 6 .any (Rows.localSpacesSpec.pre6 enc Tryz.prog Tryz.f6 Rows.localSpacesRow.domain false) (Rows.localSpacesSpec.post enc Tryz.prog Tryz.f6 false true false false):=by
 refine returnsInHanded_of_change (C:=Tryz.checked) zey started (by kernel_rfl) Tryz.func6
  (ChangeSpec.witness6 (enc:=enc) (C:=Tryz.checked) false ⟨#[],#[.slice none 0 0,.slice none 0 0,.int .i64 0],[]⟩ 8 (by kernel_rfl) (by kernel_rfl) (by kernel_rfl) (by kernel_rfl)) ?_
 intro W base args ds gs before hval0 hW hcnd _
 have hval:∀(j:Nat) t v,(Tryz.f6).params[j]?=some t→args[j]?=some v→Value.okWide Tryz.prog W .any base t v:=hval0
 have hW':=hW
 obtain⟨p,q,hA0,hV,rfl,hfz,hnd⟩:=hW
 have hA:DataW.TrodAll enc Tryz.prog W 0 (fun _=>true) true (Tryz.f6).params.toList args.toList ds p:=hA0
 rw[Tryz.params6] at hA hval
 obtain⟨v0,vs0,d0,ds0,p0,q0,hargs,rfl,rfl,h0,r0⟩:=trodAll_cons hA
 obtain⟨v1,vs1,d1,ds1,p1,q1,rfl,rfl,rfl,h1,r1⟩:=trodAll_cons r0
 obtain⟨v2,vs2,d2,ds2,p2,q2,rfl,rfl,rfl,h2,r2⟩:=trodAll_cons r1
 obtain⟨rfl,rfl,rfl⟩:=trodAll_nil r2
 obtain rfl:args=#[v0,v1,v2]:=by cases args;simp_all
 obtain⟨rfl,rfl⟩:=trodVars_none hV
 obtain⟨l,hk⟩:=zkg (hval 0 59 v0 rfl rfl) h0
 obtain⟨cl,hc⟩:=zke (hval 1 31 v1 rfl rfl) h1
 obtain⟨m,rfl,rfl,rfl,wm⟩:=open_int Tryz.underlying3 (hval 2 3 v2 rfl rfl) h2
 refine(zkk hk hc).mono fun e W' ⟨he,hf⟩=>?_
 subst he
 exact⟨_,rfl,z01 zez (by decide +kernel) rfl rfl Tryz.underlying4 hW' rfl hf⟩
theorem zkm:Rows.localSpacesRow.holds Tryz.pinned (OpenSpec.ofChange Rows.localSpacesSpec):=
 OpenClaim.holds_of_wide 6 Tryz.f6 rfl rfl rfl rfl rfl rfl rfl ⟨rfl,rfl,rfl,rfl,rfl⟩ rfl rfl rfl rfl rfl (by kernel_rfl) Tryz.func6 (by kernel_rfl)
  (of_decide_eq_true (by kernel_rfl)) (by unfold Func.isWrapper;first|(rw[if_pos (by decide +kernel)];kernel_rfl)|(rw[if_neg (by decide +kernel)];exact⟨rfl,rfl⟩))
  (fun os started H enc _=>zkl os started H enc)
theorem local_spaces:Rows.LocalSpacesSaid:=zkm
end
end Go.Proofs.YtidalepbkljkpaaGreat
