import Derived.Test.YtcmicdcikechkaaGreatPlays47
import Derived.Test.YtcmicdcikechkaaGreatPlays51
import Derived.Deep.Slices
import Derived.Test.YtcmicdcikechkaaGreatPlays38
set_option linter.all false
set_option autoImplicit true
set_option relaxedAutoImplicit true
namespace Go.Proofs.YtcmicdcikechkaaGreat
open Go.RowKit Go.H
set_option maxHeartbeats 2000000
set_option maxRecDepth 100000
section
theorem zkf {n:Nat} (hl:PairsAt F w lv l) (hlo:BytesAt G w lov lo) (hhi:BytesAt G' w hiv hi) (hb:l.length≤100000):
 Calls Tryz.prog 69 #[lv,lov,hiv,.int .i64 (n:Int)] w fun e w'=>∃A c,e=.returned (.slice A ((rangeL lo hi l).take n).length c)∧Hid (Fr C0 w w'∧PairsAt (fun b=>F b∨w.heap.size≤b) w' (.slice A ((rangeL lo hi l).take n).length c) ((rangeL lo hi l).take n)):=by
 have HA:=zhd hl
 have HLO:=zhd hlo
 have HHI:=zhd hhi
 obtain⟨A,ca,rfl,ha1,ha2⟩:=hl.form
 obtain⟨B,cb,rfl,-⟩:=hlo.form
 obtain⟨D,cd,rfl,-⟩:=hhi.form
 clear hl hlo hhi
 unfold maxLen at ha2
 obtain⟨R,hR⟩:∃R,R=(rangeL lo hi l).take n:=⟨_,rfl⟩
 rw[←hR]
 have HRR:=zhd hR
 clear hR
 go_enter Tryz.func69,Tryz.ntmps69
 go_wp2
 go_loopw [9,10] (fun ov i wr=>∃k:Nat,k≤l.length∧i=.int .i64 (k:Int)∧∃A2 m c2,ov=.slice A2 m c2∧m=(rangeL lo hi (l.take k)).length∧m≤n∧m≤k∧Hid (Fr C0 w wr∧∃xs,wr.ownsRow w.heap.size 119 3 (.slice A2 m c2) m xs∧PairCells F w xs (rangeL lo hi (l.take k)))) (fun _ i _=>l.length-(intOf i).toNat)
 case atStart=>exact⟨0,Nat.zero_le _,rfl,none,0,0,rfl,by simp[rangeL],Nat.zero_le _,Nat.le_refl _,zhd ⟨Fr.refl _ _,[],World.ownsRow_nil _ _ _ _,by simpa [rangeL] using PairCells.nil⟩⟩
 case round=>
  obtain⟨k,hk,rfl,A2,m,c2,rfl,hm,hmn,hmk,HP⟩:=hrel
  have HM:=zhd hm
  clear hm
  by_cases hlt:k<l.length∧m<n
  · obtain⟨hlt,hlt2⟩:=hlt
    have HF:Hid (Fr C0 w wr):=zhd HP.out.1
    have hs:=HF.out.size
    obtain⟨ga,oa,kva,vva,rfl,a0,a1,a2,a3,a4⟩:=HA.out.at_ k hlt
    replace a0:=HF.out.cell0 a0
    replace a1:=HF.out.cell0 a1
    replace a2:=HF.out.cell0 a2
    obtain⟨x1,y1,sa3,sb3,E1,E2⟩:=str3 (a3.fr0 HF.out) (HLO.out.fr0 HF.out)
    obtain⟨x2,y2,sc3,sd3,E3,E4⟩:=str3 (a3.fr0 HF.out) (HHI.out.fr0 HF.out)
    have HV3:Hid (PairCells F w [.int .i64 0,kva,vva] [l[k]]):=zhd (.cons a3 a4 .nil)
    obtain⟨_,_,rfl,-⟩:=a3.form
    obtain⟨_,_,rfl,-⟩:=a4.form
    have hxx:x1=x2:=by
     have e1:=sa3.out wr (Fr.refl _ _)
     have e2:=sc3.out wr (Fr.refl _ _)
     rw[e1] at e2
     injection e2 with e2
     injection e2
    subst hxx
    have h1:(k:Int)<(l.length:Int):=by omega
    have h2:(m:Int)<(n:Int):=by omega
    have hin:Hid (inR lo hi l[k]=(decide (¬bcmp l[k].1 lo<0) && (decide (hi=[]) || decide (bcmp l[k].1 hi<0)))):=zhd (by
     unfold inR
     have hsw:=z6e lo l[k].1
     have e:(decide (lo=[]) || decide (bcmp lo l[k].1≤0))=decide (¬bcmp l[k].1 lo<0):=by
      by_cases h0:lo=[]
      · subst h0
        have:bcmp ([]:Bs) l[k].1≤0:=by cases l[k].1<;>simp[bcmp]
        rw[decide_eq_true (show ¬bcmp l[k].1 []<0 by omega)];simp
      · rw[decide_eq_false h0,Bool.false_or]
        by_cases h1:bcmp lo l[k].1≤0
        · rw[decide_eq_true h1,decide_eq_true (by omega)]
        · rw[decide_eq_false h1,decide_eq_false (by omega)]
     rw[e])
    have HSTEP:Hid (rangeL lo hi (l.take (k+1))=rangeL lo hi (l.take k)++(if inR lo hi l[k] then[l[k]] else[])):=zhd (zkb hlt)
    clear a3 a4
    go_upto_region 5 with fail
    go_cut [47] (fun s wx=>s=.bool (inR lo hi l[k])∧wx=wr.drew)
    case first=>
     clear HSTEP HV3 HM HP
     by_cases hb1:bcmp l[k].1 lo<0
     · have e2:=E2.out;rw[decide_eq_true hb1] at e2
       have hno:Hid (inR lo hi l[k]=false):=zhd (by rw[hin.out,decide_eq_false (by omega)];rfl)
       clear hb1 E1 E2 E3 E4 hin
       refine z1r (Fr C0 wr) [] (by kernel_rfl) ?_
       have hSw0:(Fr C0 wr) _:=(Fr.refl C0 wr).drew
       refine tk 0 hSw0 ?_
       refine tk 1 hSw0 ?_
       refine tk 2 hSw0 ?_
       refine tk 3 hSw0 ?_
       refine tk 4 hSw0 ?_ (hy:=by intro w_ hS_;have c0:=hS_.cell0 a0;have c1:=hS_.cell0 a1;have c2:=hS_.cell0 a2;first|(go_simp;done)|(go_simp;with_reducible rfl))
       refine tk 5 hSw0 ?_ (hy:=by intro w_ hS_;have k3:=sa3.out _ hS_;have l3:=sb3.out _ hS_;first|(go_simp;done)|(go_simp;with_reducible rfl))
       refine tk 6 hSw0 ?_
       refine tk 7 hSw0 ?_ (hy:=by intro w_ hS_;have k3:=sa3.out _ hS_;have l3:=sb3.out _ hS_;first|(go_simp;done)|(go_simp;with_reducible rfl))
       refine tk 8 hSw0 ?_
       refine tk 9 hSw0 ?_
       refine tks 10 rfl hSw0 ?_
       try simp only[Act.put,zs1,zs2,zs3]
       refine tks 11 rfl hSw0 ?_
       try simp only[Act.put,zs1,zs2,zs3]
       refine tks 12 rfl hSw0 ?_
       try simp only[Act.put,zs1,zs2,zs3]
       refine tks 13 rfl hSw0 ?_
       try simp only[Act.put,zs1,zs2,zs3]
       refine tks 14 rfl hSw0 ?_
       try simp only[Act.put,zs1,zs2,zs3]
       refine tks 15 rfl hSw0 ?_
       try simp only[Act.put,zs1,zs2,zs3]
       refine tks 16 rfl hSw0 ?_
       try simp only[Act.put,zs1,zs2,zs3]
       refine tks 17 rfl hSw0 ?_
       try simp only[Act.put,zs1,zs2,zs3]
       refine tks 18 rfl hSw0 ?_
       try simp only[Act.put,zs1,zs2,zs3]
       refine tks 19 rfl hSw0 ?_
       try simp only[Act.put,zs1,zs2,zs3]
       refine tks 20 rfl hSw0 ?_
       try simp only[Act.put,zs1,zs2,zs3]
       refine tks 21 rfl hSw0 ?_
       try simp only[Act.put,zs1,zs2,zs3]
       refine tks 22 rfl hSw0 ?_
       try simp only[Act.put,zs1,zs2,zs3]
       refine tks 23 rfl hSw0 ?_
       try simp only[Act.put,zs1,zs2,zs3]
       refine tk 24 hSw0 ?_
       refine z1q (by kernel_rfl) ?_ _
       go_wp2_with fail
       go_meet
       case rel=>exact⟨by rw[hno.out],rfl⟩
     · have e2:=E2.out;rw[decide_eq_false hb1] at e2
       by_cases hh0:hi=[]
       · have hno:Hid (inR lo hi l[k]=true):=zhd (by rw[hin.out,decide_eq_true hb1,decide_eq_true hh0];rfl)
         subst hh0
         clear hb1 E1 E2 E3 E4 hin
         refine z1r (Fr C0 wr) [] (by kernel_rfl) ?_
         have hSw0:(Fr C0 wr) _:=(Fr.refl C0 wr).drew
         refine tk 0 hSw0 ?_
         refine tk 1 hSw0 ?_
         refine tk 2 hSw0 ?_
         refine tk 3 hSw0 ?_
         refine tk 4 hSw0 ?_ (hy:=by intro w_ hS_;have c0:=hS_.cell0 a0;have c1:=hS_.cell0 a1;have c2:=hS_.cell0 a2;first|(go_simp;done)|(go_simp;with_reducible rfl))
         refine tk 5 hSw0 ?_ (hy:=by intro w_ hS_;have k3:=sa3.out _ hS_;have l3:=sb3.out _ hS_;first|(go_simp;done)|(go_simp;with_reducible rfl))
         refine tk 6 hSw0 ?_
         refine tk 7 hSw0 ?_ (hy:=by intro w_ hS_;have k3:=sa3.out _ hS_;have l3:=sb3.out _ hS_;first|(go_simp;done)|(go_simp;with_reducible rfl))
         refine tk 8 hSw0 ?_
         refine tk 9 hSw0 ?_
         refine tk 10 hSw0 ?_
         refine tk 11 hSw0 ?_ (hy:=by intro w_ hS_;have c0:=hS_.cell0 a0;have c1:=hS_.cell0 a1;have c2:=hS_.cell0 a2;first|(go_simp;done)|(go_simp;with_reducible rfl))
         refine tk 12 hSw0 ?_
         refine tk 13 hSw0 ?_
         refine tks 14 rfl hSw0 ?_
         try simp only[Act.put,zs1,zs2,zs3]
         refine tks 15 rfl hSw0 ?_
         try simp only[Act.put,zs1,zs2,zs3]
         refine tks 16 rfl hSw0 ?_
         try simp only[Act.put,zs1,zs2,zs3]
         refine tks 17 rfl hSw0 ?_
         try simp only[Act.put,zs1,zs2,zs3]
         refine tks 18 rfl hSw0 ?_
         try simp only[Act.put,zs1,zs2,zs3]
         refine tks 19 rfl hSw0 ?_
         try simp only[Act.put,zs1,zs2,zs3]
         refine tks 20 rfl hSw0 ?_
         try simp only[Act.put,zs1,zs2,zs3]
         refine tks 21 rfl hSw0 ?_
         try simp only[Act.put,zs1,zs2,zs3]
         refine tks 22 rfl hSw0 ?_
         try simp only[Act.put,zs1,zs2,zs3]
         refine tk 23 hSw0 ?_
         refine tk 24 hSw0 ?_
         refine z1q (by kernel_rfl) ?_ _
         go_wp2_with fail
         go_meet
         case rel=>exact⟨by rw[hno.out],rfl⟩
       · have hh1:(((hi.length:Nat):Int) == 0)=false:=beq_false_of_ne (fun e=>hh0 (List.eq_nil_of_length_eq_zero (by omega)))
         have hd1:decide (hi=[])=false:=decide_eq_false hh0
         by_cases hb2:bcmp l[k].1 hi<0
         · have e4:=E4.out;rw[decide_eq_true hb2] at e4
           have hno:Hid (inR lo hi l[k]=true):=zhd (by rw[hin.out,decide_eq_true hb1,decide_eq_true hb2,Bool.or_true];rfl)
           clear hb1 hb2 hd1 hh0 E1 E2 E3 E4 hin
           refine z1r (Fr C0 wr) [] (by kernel_rfl) ?_
           have hSw0:(Fr C0 wr) _:=(Fr.refl C0 wr).drew
           refine tk 0 hSw0 ?_
           refine tk 1 hSw0 ?_
           refine tk 2 hSw0 ?_
           refine tk 3 hSw0 ?_
           refine tk 4 hSw0 ?_ (hy:=by intro w_ hS_;have c0:=hS_.cell0 a0;have c1:=hS_.cell0 a1;have c2:=hS_.cell0 a2;first|(go_simp;done)|(go_simp;with_reducible rfl))
           refine tk 5 hSw0 ?_ (hy:=by intro w_ hS_;have k3:=sa3.out _ hS_;have l3:=sb3.out _ hS_;have m3:=sd3.out _ hS_;first|(go_simp;done)|(go_simp;with_reducible rfl))
           refine tk 6 hSw0 ?_
           refine tk 7 hSw0 ?_ (hy:=by intro w_ hS_;have k3:=sa3.out _ hS_;have l3:=sb3.out _ hS_;have m3:=sd3.out _ hS_;first|(go_simp;done)|(go_simp;with_reducible rfl))
           refine tk 8 hSw0 ?_
           refine tk 9 hSw0 ?_
           refine tk 10 hSw0 ?_
           refine tk 11 hSw0 ?_ (hy:=by intro w_ hS_;have c0:=hS_.cell0 a0;have c1:=hS_.cell0 a1;have c2:=hS_.cell0 a2;first|(go_simp;done)|(go_simp;with_reducible rfl))
           refine tk 12 hSw0 ?_
           refine tk 13 hSw0 ?_
           refine tk 14 hSw0 ?_
           refine tk 15 hSw0 ?_
           refine tk 16 hSw0 ?_
           refine tk 17 hSw0 ?_
           refine tk 18 hSw0 ?_ (hy:=by intro w_ hS_;have c0:=hS_.cell0 a0;have c1:=hS_.cell0 a1;have c2:=hS_.cell0 a2;first|(go_simp;done)|(go_simp;with_reducible rfl))
           refine tk 19 hSw0 ?_ (hy:=by intro w_ hS_;have k3:=sa3.out _ hS_;have l3:=sb3.out _ hS_;have m3:=sd3.out _ hS_;first|(go_simp;done)|(go_simp;with_reducible rfl))
           refine tk 20 hSw0 ?_
           refine tk 21 hSw0 ?_ (hy:=by intro w_ hS_;have k3:=sa3.out _ hS_;have l3:=sb3.out _ hS_;have m3:=sd3.out _ hS_;first|(go_simp;done)|(go_simp;with_reducible rfl))
           refine tk 22 hSw0 ?_
           refine tk 23 hSw0 ?_
           refine tk 24 hSw0 ?_
           refine z1q (by kernel_rfl) ?_ _
           go_wp2_with fail
           go_meet
           case rel=>exact⟨by rw[hno.out],rfl⟩
         · have e4:=E4.out;rw[decide_eq_false hb2] at e4
           have hno:Hid (inR lo hi l[k]=false):=zhd (by rw[hin.out,decide_eq_true hb1,decide_eq_false hb2,hd1];rfl)
           clear hb1 hb2 hd1 hh0 E1 E2 E3 E4 hin
           refine z1r (Fr C0 wr) [] (by kernel_rfl) ?_
           have hSw0:(Fr C0 wr) _:=(Fr.refl C0 wr).drew
           refine tk 0 hSw0 ?_
           refine tk 1 hSw0 ?_
           refine tk 2 hSw0 ?_
           refine tk 3 hSw0 ?_
           refine tk 4 hSw0 ?_ (hy:=by intro w_ hS_;have c0:=hS_.cell0 a0;have c1:=hS_.cell0 a1;have c2:=hS_.cell0 a2;first|(go_simp;done)|(go_simp;with_reducible rfl))
           refine tk 5 hSw0 ?_ (hy:=by intro w_ hS_;have k3:=sa3.out _ hS_;have l3:=sb3.out _ hS_;have m3:=sd3.out _ hS_;first|(go_simp;done)|(go_simp;with_reducible rfl))
           refine tk 6 hSw0 ?_
           refine tk 7 hSw0 ?_ (hy:=by intro w_ hS_;have k3:=sa3.out _ hS_;have l3:=sb3.out _ hS_;have m3:=sd3.out _ hS_;first|(go_simp;done)|(go_simp;with_reducible rfl))
           refine tk 8 hSw0 ?_
           refine tk 9 hSw0 ?_
           refine tk 10 hSw0 ?_
           refine tk 11 hSw0 ?_ (hy:=by intro w_ hS_;have c0:=hS_.cell0 a0;have c1:=hS_.cell0 a1;have c2:=hS_.cell0 a2;first|(go_simp;done)|(go_simp;with_reducible rfl))
           refine tk 12 hSw0 ?_
           refine tk 13 hSw0 ?_
           refine tk 14 hSw0 ?_
           refine tk 15 hSw0 ?_
           refine tk 16 hSw0 ?_
           refine tk 17 hSw0 ?_
           refine tk 18 hSw0 ?_ (hy:=by intro w_ hS_;have c0:=hS_.cell0 a0;have c1:=hS_.cell0 a1;have c2:=hS_.cell0 a2;first|(go_simp;done)|(go_simp;with_reducible rfl))
           refine tk 19 hSw0 ?_ (hy:=by intro w_ hS_;have k3:=sa3.out _ hS_;have l3:=sb3.out _ hS_;have m3:=sd3.out _ hS_;first|(go_simp;done)|(go_simp;with_reducible rfl))
           refine tk 20 hSw0 ?_
           refine tk 21 hSw0 ?_ (hy:=by intro w_ hS_;have k3:=sa3.out _ hS_;have l3:=sb3.out _ hS_;have m3:=sd3.out _ hS_;first|(go_simp;done)|(go_simp;with_reducible rfl))
           refine tk 22 hSw0 ?_
           refine tk 23 hSw0 ?_
           refine tk 24 hSw0 ?_
           refine z1q (by kernel_rfl) ?_ _
           go_wp2_with fail
           go_meet
           case rel=>exact⟨by rw[hno.out],rfl⟩
    case rest=>
     obtain⟨rfl,rfl⟩:=hcut
     cases hin2:inR lo hi l[k] with
     | false =>
       rw[hin2] at HSTEP
       clear hin hin2
       go_wp2
       go_roundw
       case rel=>
        refine⟨k+1,by omega,by go_num,A2,m,c2,rfl,by rw[HSTEP.out];simpa using HM.out,by omega,by omega,zhd ⟨HF.out.drew,?_⟩⟩
        obtain⟨-,xs,o,p⟩:=HP.out
        exact⟨xs,z0m o (Fr.refl C0 wr).drew (fun _ _ h=>h),by rw[HSTEP.out];simpa using p⟩
       case measure=>simp[intOf];omega
     | true =>
       rw[hin2] at HSTEP
       clear hin hin2
       have HO:=zhd HP.out.2
       clear HP
       obtain⟨xs,o,p⟩:=HO.out
       have O:=zhd o
       have PC:=zhd p
       clear o p HO
       go_wp2_with (at_builtin;go_must (refine z0l z2o rfl _ _ rfl (v:=.slice A2 m c2) (xv:=.slice (some ⟨wr.heap.size,0,none⟩) 1 1) rfl rfl (B:=w.heap.size) (z0m O.out ((Fr.refl C0 wr).drew.alloc _) (fun _ _ h=>h)) (Row.ofBlock (F:=fun _=>True) (heap_alloc_new wr.drew _) trivial (by unfold maxLen;omega) rfl) (by simp[Value.oneCell']) (by unfold maxLen;omega) (by omega) (Nat.le_trans hs ((Fr.refl C0 wr).drew.alloc _).size) ?_);intro v5 w5 o5 f5 k5 nil5)
       obtain⟨A5,c5,rfl,-⟩:=z0o o5
       go_roundw
       case rel=>
        refine⟨k+1,by omega,by go_num,A5,m+1,c5,rfl,by rw[HSTEP.out,List.length_append,←HM.out];rfl,by omega,by omega,zhd ⟨(HF.out.drew.alloc _).transO f5 (fun b e=>(O.out.lt b e).1),xs++_,o5,?_⟩⟩
        rw[HSTEP.out]
        exact PairCells.append HV3.out PC.out
       case measure=>simp[intOf];omega
  · have hex:¬(k:Int)<(l.length:Int)∨(k:Int)<(l.length:Int)∧¬(m:Int)<(n:Int):=by omega
    have HE:Hid (rangeL lo hi (l.take k)=R):=zhd (by rw[HRR.out];exact zkc (by rw[←HM.out];exact hmn) (by rw[←HM.out];omega))
    have HEND:Hid (Fr C0 w wr∧PairsAt (fun b=>F b∨w.heap.size≤b) wr (.slice A2 m c2) R):=zhd (by
     obtain⟨f,xs,o,p⟩:=HP.out
     refine⟨f,xs,?_,?_⟩
     · rw[←HE.out,←HM.out]
       exact Row.ofOwn o (fun b e=>.inr (o.lt b e).1)
     · rw[←HE.out]
       exact(p.fr f (fun _ _ h=>h)).mono (fun b h _=>.inl h))
    have HML:Hid (m=R.length):=zhd (by rw[←HE.out];exact HM.out)
    clear HP HE HM hlt
    rcases hex with h1|⟨h1,h2⟩
    · go_wp2
      go_ret
      rw[←HML.out]
      exact⟨A2,c2,rfl,HEND⟩
    · go_wp2
      go_ret
      rw[←HML.out]
      exact⟨A2,c2,rfl,HEND⟩
end
section
def SoftV (B:Nat) (w:World) (u:Value):Prop:=u=.slice none 0 0∨∃(g:Nat) (cur:Array Value) (m k:Nat),u=.slice (some ⟨g,0,none⟩) m k∧B≤g∧w.heap[g]?=some (.cells cur 5 (0,0))∧cur.size=k∧m≤k∧k≤maxLen∧m≤100000
theorem SoftV.shp {B:Nat} (h:SoftV B w u) (s:Shp w w'):SoftV B w' u:=by
 rcases h with rfl|⟨g,cur,m,k,rfl,h1,h2,h3,h4⟩
 · exact .inl rfl
 · obtain⟨c2,h5,h6⟩:=s g cur _ h2
   exact .inr ⟨g,c2,m,k,rfl,h1,h5,h6.trans h3,h4⟩
theorem SoftV.own {B:Nat} (h:SoftV B w u):∃A m k xs,u=.slice A m k∧w.ownsRow B 5 1 u m xs∧m≤100000:=by
 rcases h with rfl|⟨g,cur,m,k,rfl,h1,h2,h3,h4,h5,h6⟩
 · exact⟨none,0,0,[],rfl,World.ownsRow_nil _ _ _ _,by omega⟩
 · exact⟨_,m,k,cur.toList.take m,rfl,⟨by simp;omega,.inr ⟨g,k,cur,rfl,h1,h2,h4,h5,by omega,by simp⟩⟩,h6⟩
theorem SoftV.ne {B:Nat} {g:Nat} (h:SoftV B w u) (hg:w.heap[g]?=some (.cells cur 119 (0,0))):¬u.ownBlock=some g:=by
 rcases h with rfl|⟨b,c,m,k,rfl,h1,h2,h3⟩
 · simp[Value.ownBlock]
 · intro e
   simp[Value.ownBlock] at e
   subst e
   rw[h2] at hg
   injection hg with hg
   injection hg with h4 h5
   exact absurd h5 (by decide)
structure Rd (w wr:World) (g n cap k:Nat) (ks vs:Nat→Value):Prop where
 fr:Fr C0 w wr
 ge:w.heap.size≤g
 ex:∃cur:Array Value,wr.heap[g]?=some (.cells cur 119 (0,0))∧cur.size=cap*3∧(∀i,k≤i→i<n→cur[i*3+1]?=some (ks i)∧SoftV w.heap.size wr (ks i))∧∀i,i<n→cur[i*3+2]?=some (vs i)∧SoftV w.heap.size wr (vs i)
variable {w wr : World} {g n cap k : Nat} {ks vs : Nat → Value}
theorem Rd.key (h:Rd w wr g n cap k ks vs) (hk:k<n) (o:Nat) (ho:o=0):wr.cell? ⟨g,o+k*3+1,none⟩=some (ks k)∧wr.frozen? ⟨g,o+k*3+1,none⟩=false:=by
 obtain⟨cur,h1,h2,h3,h4⟩:=h.ex
 subst ho
 exact⟨z2g h1 _ (by rw[Nat.zero_add];exact(h3 k (Nat.le_refl _) hk).1),z2e _ h1⟩
theorem Rd.val (h:Rd w wr g n cap k ks vs) {i:Nat} (hk:i<n) (o:Nat) (ho:o=0):wr.cell? ⟨g,o+i*3+2,none⟩=some (vs i):=by
 obtain⟨cur,h1,h2,h3,h4⟩:=h.ex
 subst ho
 exact z2g h1 _ (by rw[Nat.zero_add];exact(h4 i hk).1)
theorem Rd.softk (h:Rd w wr g n cap k ks vs) (hk:k<n):SoftV w.heap.size wr (ks k):=by
 obtain⟨cur,h1,h2,h3,h4⟩:=h.ex
 exact(h3 k (Nat.le_refl _) hk).2
theorem Rd.softv (h:Rd w wr g n cap k ks vs) {i:Nat} (hk:i<n):SoftV w.heap.size wr (vs i):=by
 obtain⟨cur,h1,h2,h3,h4⟩:=h.ex
 exact(h4 i hk).2
theorem Rd.fr0 (h:Rd w wr g n cap k ks vs) (f:Fr C0 wr w2):Rd w w2 g n cap k ks vs:=by
 obtain⟨cur,h1,h2,h3,h4⟩:=h.ex
 exact⟨h.fr.trans0 f,h.ge,cur,f.blk h1 (fun h=>h),h2,fun i a b=>⟨(h3 i a b).1,(h3 i a b).2.shp (Shp.fr0 f)⟩,fun i b=>⟨(h4 i b).1,(h4 i b).2.shp (Shp.fr0 f)⟩⟩
theorem Rd.app (h:Rd w wr g n cap k ks vs) (f:Fr C wr w2) (s:Shp wr w2) (hC:∀b,C b→w.heap.size≤b) (hg:¬C g):Rd w w2 g n cap k ks vs:=by
 obtain⟨cur,h1,h2,h3,h4⟩:=h.ex
 exact⟨h.fr.trans f (fun b hb e=>absurd (hC b e) (by omega)),h.ge,cur,f.blk h1 hg,h2,fun i a b=>⟨(h3 i a b).1,(h3 i a b).2.shp s⟩,fun i b=>⟨(h4 i b).1,(h4 i b).2.shp s⟩⟩
theorem Rd.set (h:Rd w wr g n cap k ks vs) (o:Nat) (ho:o=0) (u:Value):Rd w (wr.setCell ⟨g,o+k*3+1,none⟩ u) g n cap (k+1) ks vs:=by
 obtain⟨cur,h1,h2,h3,h4⟩:=h.ex
 have s:=Shp.setCell wr g (o+k*3+1) u
 subst ho
 refine⟨h.fr.setCell (.inl h.ge) u,h.ge,_,z2f h1 u,by simp[h2],fun i a b=>⟨?_,(h3 i (by omega) b).2.shp s⟩,fun i b=>⟨?_,(h4 i b).2.shp s⟩⟩
 · rw[Array.getElem?_setIfInBounds_ne (by omega)];exact(h3 i (by omega) b).1
 · rw[Array.getElem?_setIfInBounds_ne (by omega)];exact(h4 i b).1
theorem Rd.byte (h:Rd w wr g n cap k ks vs) {b o m c:Nat} {i:Nat} (hi:i<n) (hv:vs i=.slice (some ⟨b,0,none⟩) m c) (u:Value):Rd w (wr.setCell ⟨b,o,none⟩ u) g n cap k ks vs:=by
 have hs:=h.softv hi
 obtain⟨cur,h1,h2,h3,h4⟩:=h.ex
 have hne:=hs.ne h1
 rw[hv] at hs hne
 rcases hs with e|⟨b',c',m',k',e,hb,_⟩
 · cases e
 · injection e with e1 e2 e3
   injection e1 with e1
   injection e1 with e1
   subst e1
   exact Rd.app h ((Fr.refl (fun x=>x=b) wr).setCell (p:=⟨b,o,none⟩) (.inr rfl) u) (Shp.setCell wr b o u) (fun x e=>by rw[e];exact hb) (fun e=>hne (by rw[e];rfl))
theorem Rd.cells (h:Rd w wr g n cap k ks vs) {i j b m c:Nat} (hi:i<n) (hv:vs i=.slice (some ⟨b,0,none⟩) m c) (hj:j<m) (o:Nat) (ho:o=0):(∃u,wr.cell? ⟨b,o+j,none⟩=some u)∧wr.frozen? ⟨b,o+j,none⟩=false:=by
 have hs:=h.softv hi
 rw[hv] at hs
 subst ho
 rcases hs with e|⟨b',c',m',k',e,hb,h1,h2,h3,_⟩
 · cases e
 · injection e with e1 e2 e3
   injection e1 with e1
   injection e1 with e1
   subst e1 e2 e3
   exact⟨⟨c'[j]'(by omega),z2g h1 _ (by rw[Nat.zero_add];exact Array.getElem?_eq_getElem (by omega))⟩,z2e _ h1⟩
theorem Rd.start {q:Nat} (hf:Fr C0 w wr) (h:Out w.heap.size c q wr v L) (hl:∀x∈L,x.1.length≤100000∧x.2.length≤100000) (hn:L≠[]):∃g cap ks vs,v=.slice (some ⟨g,0,none⟩) L.length cap∧L.length≤cap∧Rd w wr g L.length cap 0 ks vs:=by
 obtain⟨xs,a,b,e,s⟩:=h
 have hl0:0<L.length:=List.length_pos_iff.2 hn
 have hx:=a.1
 rcases a.2 with⟨_,h0⟩|⟨g,cap,cur,rfl,-,h1,h2,h3,h4,h5⟩
 · omega
 · have at_:∀i u,i<L.length*3→xs[i]?=some u→cur[i]?=some u:=fun i u hi hu=>by
    rw[←h5,List.getElem?_take_of_lt hi] at hu
    simpa using hu
   have soft:∀u l,u∈xs→BytesAt (fun b=>c b=0∧w.heap.size≤b) wr u l→l.length≤100000→SoftV w.heap.size wr u:=fun u l hu hb hll=>by
    obtain⟨A,k,rfl,h6,h7⟩:=hb.form
    obtain⟨s1,s2⟩:=s _ hu
    obtain⟨l',ho⟩:=s1 _ _ _ rfl
    rcases ho.2 with⟨e1,_⟩|⟨g',cap',cur',e1,-,k1,k2,k3,k4,k5⟩
    · exact .inl e1
    · injection e1 with e1 e2 e3
      subst e1 e3
      exact .inr ⟨g',cur',_,_,rfl,(s2 g' rfl).2,k1,by omega,k2,k3,hll⟩
   have each:∀i,i<L.length→∃p:Value×Value,cur[i*3+1]?=some p.1∧cur[i*3+2]?=some p.2∧SoftV w.heap.size wr p.1∧SoftV w.heap.size wr p.2:=fun i hi=>by
    obtain⟨kv,vv,k0,k1,k2,k3,k4⟩:=b.at_ i hi
    have hm:=hl _ (List.getElem_mem hi)
    exact⟨(kv,vv),at_ _ _ (by omega) k1,at_ _ _ (by omega) k2,soft _ _ (List.mem_of_getElem? k1) k3 hm.1,soft _ _ (List.mem_of_getElem? k2) k4 hm.2⟩
   obtain⟨Y,hY⟩:=Go.Deep.choose_lt each
   exact⟨g,cap,fun i=>(Y i).1,fun i=>(Y i).2,rfl,h2,hf,(e g rfl).2,cur,h1,h4,fun i _ hi=>⟨(hY i hi).1,(hY i hi).2.2.1⟩,fun i hi=>⟨(hY i hi).2.1,(hY i hi).2.2.2⟩⟩
end
section
theorem zkg:∀{l:List KV},Sorted l→(atB k l=true→delL k l=l.take (atN k l)++l.drop (atN k l+1))∧(atB k l=false→delL k l=l)
 |[],_=>⟨fun h=>by simp[atB] at h,fun _=>rfl⟩
 | y :: l, hs => by
   have h1:=List.pairwise_cons.1 hs
   have ih:=zkg (k:=k) h1.2
   have hsw:=z6e k y.1
   simp only[delL,atN,atB]
   by_cases h:bcmp y.1 k<0
   · simp only[if_pos h]
     rw[if_neg (by omega)]
     exact⟨fun hb=>by rw[ih.1 hb,List.take_succ_cons,List.drop_succ_cons];rfl,fun hb=>by rw[ih.2 hb]⟩
   · simp only[if_neg h]
     by_cases h2:bcmp k y.1=0
     · have e:=z6d h2
       rw[if_pos h2]
       exact⟨fun _=>by simp,fun hb=>absurd e.symm (of_decide_eq_false hb)⟩
     · rw[if_neg h2]
       refine⟨fun hb=>?_,fun _=>?_⟩
       · have:=of_decide_eq_true hb
         rw[this,z6c] at h2
         exact absurd rfl h2
       · congr 1
         refine zgd (z6m fun z hz=>?_)
         have h3:=h1.1 z hz
         unfold klt at h3
         exact z6f (by omega) h3
theorem zkh (hs:Sorted l) (hl:PairsAt F w lv l) (hk:BytesAt F w kv k) (hb:l.length≤100000):
 Calls Tryz.prog 24 #[lv,kv] w fun e w'=>∃A c,e=.returned (.slice A (delL k l).length c)∧Hid (Fr C0 w w'∧PairsAt (fun b=>F b∨w.heap.size≤b) w' (.slice A (delL k l).length c) (delL k l)):=by
 have HD:=zhd (zkg (k:=k) hs)
 have HAT:=zhd (zin hl hk)
 have HL:=zhd hl
 obtain⟨A,ca,rfl,ha1,ha2⟩:=hl.form
 obtain⟨B,cb,rfl,-⟩:=hk.form
 obtain⟨xs,hr,hc⟩:=hl
 have HR:=zhd (hr.mono (F':=fun b=>b<w.heap.size) (fun _ _ h=>h))
 have HC:=zhd hc
 have H1:=zhd (zfn hc)
 have hN:=zif k l
 have HLT:=zhd (zig k l)
 unfold maxLen at ha2
 clear hk hr hc
 generalize hn:atN k l=N at *
 clear hn
 cases hbb:atB k l
 · rw[hbb] at HAT HD
   have HE:Hid (delL k l=l):=zhd (HD.out.2 rfl)
   clear hbb HLT
   rw[HE.out]
   go_enter Tryz.func24,Tryz.ntmps24
   go_wp2_with fail
   refine HAT.out.mono ?_
   rintro e w1 ⟨rfl,f1⟩
   have HF:=zhd f1
   clear f1
   go_wp2
   go_ret
   exact⟨A,ca,rfl,zhd ⟨HF.out,(HL.out.fr0 HF.out).mono (fun _ h _=>.inl h)⟩⟩
 · have hi:N+1≤l.length:=HLT.out hbb
   rw[hbb] at HAT HD
   have HE:Hid (delL k l=l.take N++l.drop (N+1)):=zhd (HD.out.1 rfl)
   have HEL:Hid ((delL k l).length=N+(l.length-(N+1))):=zhd (by rw[HE.out];simp;omega)
   have hw1:IntKind.i64.wrap ((N:Int)+1)=((N+1:Nat):Int):=by rw[z0t _ (by omega) (by omega)];omega
   clear hbb HLT HD
   go_enter Tryz.func24,Tryz.ntmps24
   go_wp2_with fail
   refine HAT.out.mono ?_
   rintro e w1 ⟨rfl,f1⟩
   have F1:=zhd f1
   have hs1:=f1.size
   clear f1
   go_wp2_with (at_builtin;first
    | (refine z0l z2o rfl _ _ rfl (v := .slice none 0 0) (xv := .slice A N ca) rfl rfl (B := w.heap.size) (World.ownsRow_nil _ _ _ _) ((HR.out.take hN).fr0 F1.out) (z0p H1.out) (by unfold maxLen; omega) (by omega) (by omega) ?_
       intro v2 w2 o2 f2 k2 nil2
       rw[Nat.zero_add] at o2
       obtain⟨A2,c2,rfl,-⟩:=z0o o2
       have F2:Hid (Fr C0 w w2):=zhd (F1.out.trans f2 (fun b _ h=>by simp[Value.ownBlock] at h))
       have O2:=zhd o2
       have hs2:=F2.out.size
       clear o2 f2 k2 nil2)
    | (refine z0l z2o rfl _ _ rfl (v := .slice A2 N c2) (xv := .slice (if ca = (N + 1) then A else A.map (·.add ((N + 1) * 3))) (l.length - (N + 1)) (ca - (N + 1))) rfl rfl (B := w.heap.size) O2.out ((HR.out.drop hi).fr0 F2.out) (z0q H1.out) (by unfold maxLen; omega) (by omega) hs2 ?_
       intro v6 w6 o6 f6 k6 nil6
       obtain⟨A6,c6,rfl,-⟩:=z0o o6))
   all_goals
    have F6:Fr C0 w w6:=F2.out.transO f6 (fun b e=>(O2.out.lt b e).1)
    rw[HEL.out]
    go_ret
    refine⟨A6,c6,rfl,zhd ⟨F6,?_⟩⟩
    refine⟨_,by rw[HEL.out];exact Row.ofOwn o6 (fun b e=>.inr (o6.lt b e).1),?_⟩
    rw[HE.out,List.nil_append]
    have old:=(HC.out.fr F6 (fun _ _ k=>k)).mono (F':=fun b=>F b∨w.heap.size≤b) (fun b h _=>.inl h)
    exact PairCells.append (PairCells.drop_ (N+1) old) (PairCells.take_ N old)
end
section
theorem zki (hk:BytesAt F w kv k) (hv:BytesAt G w vv v):
 Calls Tryz.prog 32 #[kv,vv] w fun e w'=>e=.returned (.int .i64 (wrong k v:Int))∧w=w':=by
 obtain⟨A,c,rfl,-⟩:=hk.form
 obtain⟨A',c',rfl,-⟩:=hv.form
 clear hk hv
 unfold wrong
 by_cases h0:k.length=0
 · have hk:k=[]:=List.eq_nil_of_length_eq_zero h0
   subst hk
   go_enter Tryz.func32,Tryz.ntmps32
   go_wp2
   go_ret
   exact⟨rfl,rfl⟩
 · have hk:¬k=[]:=fun e=>h0 (by rw[e];rfl)
   have h00:¬(k.length:Int)=0:=by omega
   rw[if_neg hk]
   by_cases h1:64<k.length
   · have h2:(64:Int)<(k.length:Int):=by omega
     rw[if_pos (.inl h1)]
     go_enter Tryz.func32,Tryz.ntmps32
     go_wp2
     go_ret
     exact⟨rfl,rfl⟩
   · have h2:¬(64:Int)<(k.length:Int):=by omega
     by_cases h3:1800<v.length
     · have h4:(1800:Int)<(v.length:Int):=by omega
       rw[if_pos (.inr h3)]
       go_enter Tryz.func32,Tryz.ntmps32
       go_wp2
       go_ret
       exact⟨rfl,rfl⟩
     · have h4:¬(1800:Int)<(v.length:Int):=by omega
       rw[if_neg (by omega)]
       go_enter Tryz.func32,Tryz.ntmps32
       go_wp2
       go_ret
       exact⟨rfl,rfl⟩
theorem zkj {r:Nat} {tp st:Nat} (h:Hd c r w tp st S D) (hk:BytesAt F w kv k) (hw:wrong k []≠0):
 Calls Tryz.prog 13 #[.pointer (some ⟨tp,0,none⟩),kv] w fun e w'=>e=.returned (.tuple #[.slice none 0 0,.bool false,.int .i64 (wrong k []:Int)])∧Fr C0 w w':=by
 have HM:=zhd (fun (w_:World) (hf:Fr C0 w w_)=>za7 (G:=fun _=>True) (vv:=.slice none 0 0) (v:=[]) (h.fr0 hf) (hk.fr0 hf) ⟨none,0,rfl,Nat.le_refl _,by unfold maxLen;omega,fun h=>absurd rfl h⟩)
 obtain⟨A,cc,rfl,-⟩:=hk.form
 have hne:((wrong k []:Int) != 0)=true:=by simp[bne,z2z];omega
 have F0:=zhd ((Fr.refl C0 w).alloc (.cells #[.int .i64 0] 28))
 have hb:=heap_alloc_new w (.cells #[.int .i64 0] 28)
 have e0:=z2g hb 0 rfl
 have ze:=z2e 0 hb
 generalize wrong k []=x at *
 clear h hk hb
 go_enter_defers Tryz.func13,Tryz.ntmps13
 go_wp2_with fail
 refine(HM.out _ F0.out).mono ?_
 rintro e w1 ⟨rfl,rfl⟩
 go_wp2_with fail
 simp[bodyPostD,Leaves,settle,results,Tryz.results13,go_sem,e0]
 exact((Fr.refl C0 w).alloc _).drew
def rwrong (n:Int) (lo hi:Bs):Nat:=if n<0 then 1 else if 64<lo.length∨64<hi.length then 3 else 0
theorem zkk {r:Nat} {tp st:Nat} {n:Int} (h:Hd c r w tp st S D) (hlo:BytesAt F w lov lo) (hhi:BytesAt G w hiv hi) (hw:rwrong n lo hi≠0) (hv:(∃tx y,v=.iface tx y)∨v=.nilIface):
 Calls Tryz.prog 57 #[.pointer (some ⟨tp,0,none⟩),v,lov,hiv,.int .i64 n] w fun e w'=>e=.returned (.tuple #[.slice none 0 0,.int .i64 (rwrong n lo hi:Int)])∧Fr C0 w w':=by
 have HD:=zhd (fun (w_:World) (hf:Fr C0 w w_)=>za5 (h.fr0 hf))
 obtain⟨LA,lc,rfl,-⟩:=hlo.form
 obtain⟨HA,hcc,rfl,-⟩:=hhi.form
 have hb0:=((Fr.refl C0 _).alloc (.cells #[.int .i64 0] 28)).blk (heap_alloc_new w (.cells #[.slice none 0 0] 45)) (fun h=>h)
 have hb1:=heap_alloc_new (w.alloc (.cells #[.slice none 0 0] 45)) (.cells #[.int .i64 0] 28)
 rw[show(w.alloc (.cells #[.slice none 0 0] 45)).heap.size=w.heap.size+1 by simp] at hb1
 have e0:=z2g hb0 0 rfl
 have e1:=z2g hb1 0 rfl
 have z0:=z2e 0 hb0
 have z1:=z2e 0 hb1
 clear h hlo hhi hb0 hb1
 have fin:Fr C0 w (((w.alloc (.cells #[.slice none 0 0] 45)).alloc (.cells #[.int .i64 0] 28)).drew):=(((Fr.refl C0 w).alloc _).alloc _).drew
 unfold rwrong at hw⊢
 clear fin
 have fin2:∀x,Fr C0 w (((w.alloc (.cells #[.slice none 0 0] 45)).alloc (.cells #[.int .i64 x] 28)).drew):=fun x=>(((Fr.refl C0 w).alloc _).alloc _).drew
 by_cases h1:n<0
 · simp only[if_pos h1] at hw⊢
   rcases hv with⟨tx,y,rfl⟩|rfl
   all_goals
    go_enter_defers Tryz.func57,Tryz.ntmps57
    go_wp2_with fail
    refine(HD.out _ (((Fr.refl C0 w).alloc _).alloc _)).mono ?_
    rintro e w1 ⟨rfl,rfl⟩
    go_wp2_with fail
    simp[bodyPostD,Leaves,settle,results,Tryz.results57,go_sem,e0,e1]
    exact fin2 _
 · simp only[if_neg h1] at hw⊢
   have h2:64<lo.length∨64<hi.length:=Decidable.of_not_not fun e=>hw (by rw[if_neg e])
   simp only[if_pos h2]
   have h3:(64:Int)<(lo.length:Int)∨¬(64:Int)<(lo.length:Int)∧(64:Int)<(hi.length:Int):=by omega
   clear h2 hw
   rcases hv with⟨tx,y,rfl⟩|rfl<;>rcases h3 with h3|⟨h3,h4⟩
   all_goals
    go_enter_defers Tryz.func57,Tryz.ntmps57
    go_wp2_with fail
    refine(HD.out _ (((Fr.refl C0 w).alloc _).alloc _)).mono ?_
    rintro e w1 ⟨rfl,rfl⟩
    go_wp2_with fail
    simp[bodyPostD,Leaves,settle,results,Tryz.results57,go_sem,e0,e1]
    exact fin2 _
theorem zkl {r rn rm:Nat} {tp k:Nat} {n:Int} (h:TreeAt c r rn rm w tp Z k) (hlo:BytesAt F w lov lo) (hhi:BytesAt G w hiv hi) (hw:rwrong n lo hi≠0):
 Calls Tryz.prog 21 #[.pointer (some ⟨tp,0,none⟩),lov,hiv,.int .i64 n] w fun e w'=>e=.returned (.tuple #[.slice none 0 0,.int .i64 (rwrong n lo hi:Int)])∧Fr C0 w w':=by
 obtain⟨st,lm,km,nr,lr,gv,ov,sn,h⟩:=h
 have hv:(∃tx y,nr=.iface tx y)∨nr=.nilIface:=by
  have:=h.now
  cases hz:Z.now with
  |none=>rw[hz] at this;exact .inr this
  |some p=>rw[hz] at this;exact .inl this.1.iface
 have H:=zhd (zkk h.hd hlo hhi hw hv)
 have c1:w.cell? ⟨tp,1,none⟩=some nr:=z2g h.blk 1 rfl
 clear h hlo hhi hw hv
 go_enter Tryz.func21,Tryz.ntmps21
 go_wp2_with fail
 refine H.out.mono ?_
 rintro e w1 ⟨rfl,f1⟩
 go_wp2
 go_ret2
 exact⟨rfl,f1⟩
end
end Go.Proofs.YtcmicdcikechkaaGreat
