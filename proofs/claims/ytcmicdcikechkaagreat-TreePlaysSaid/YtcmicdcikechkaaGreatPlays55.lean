import Derived.Test.YtcmicdcikechkaaGreatPlays54
import Derived.Test.YtcmicdcikechkaaGreatPlays48
import Derived.Deep.CutBlock
set_option linter.all false
set_option autoImplicit true
set_option relaxedAutoImplicit true
namespace Go.Proofs.YtcmicdcikechkaaGreat
open Go.RowKit Go.H
set_option maxHeartbeats 4000000
set_option maxRecDepth 100000
section
variable {w0 w w' : World} {pn d tp N k : Nat} {La Ln Ll Lk : List KV} {c c' : Nat → Nat} {SL S2 : List (Nat × List KV)}
def PlRel (w0:World) (d kk:Nat) (t nw kp sn ol nb:Value) (wx:World):Prop:=∃(tp:Nat) (NA:Option Addr) (nc:Nat) (KA:Option Addr) (kc:Nat) (SA:Option Addr) (sc:Nat) (OA:Option Addr) (oc:Nat) (La Ll:List KV) (S2:List (Nat×List KV)) (N:Nat),
 t=.pointer (some ⟨tp,0,none⟩)∧nw=.slice NA La.length nc∧kp=.slice KA Ll.length kc∧sn=.slice SA S2.length sc∧ol=.slice OA S2.length oc∧nb=.int .i64 (N:Int)∧S2.length≤4∧N≤kk∧La.length≤kk∧Ll.length≤kk∧
 Hid (∃c SL,SAt w0 698 d tp La Ll N kk SL c wx∧PlR nw kp sn ol La Ll S2 c wx∧S2.Perm SL)
theorem SAt.lenl (h:SAt w0 pn d tp La Ll N k SL c w):Ll.length≤k:=by
 obtain⟨Z,a,b,e,g,i⟩:=h
 rw[←e];exact i.last
theorem SAt.num (h:SAt w0 pn d tp La Ll N k SL c w):N≤k:=by
 obtain⟨Z,a,b,e,g,i⟩:=h
 exact i.nk
theorem PlRel.mk {kk:Nat} {d tp N:Nat} (a:SAt w0 698 d tp La Ll N kk SL c wx) (r:PlR nv kv sv ov La Ll S2 c wx) (h4:S2.length≤4) (hp:S2.Perm SL):PlRel w0 d kk (.pointer (some ⟨tp,0,none⟩)) nv kv sv ov (.int .i64 (N:Int)) wx:=by
 obtain⟨NA,nc,rfl,-⟩:=r.n.form
 obtain⟨KA,kc,rfl,-⟩:=r.k.form
 obtain⟨xs,o1,o2⟩:=r.o
 obtain⟨SA,sc,rfl,-⟩:=z0o r.s
 obtain⟨OA,oc,rfl,-⟩:=z0o o1
 exact⟨tp,NA,nc,KA,kc,SA,sc,OA,oc,La,Ll,S2,N,rfl,rfl,rfl,rfl,rfl,rfl,h4,a.num,a.len,a.lenl,zhd ⟨c,SL,a,r,hp⟩⟩
theorem zla (hk:ActsAt w av acts):
 Calls Tryz.prog 7 #[av] w fun e w'=>e=.returned (.bool true)∧Fr C0 w w':=by
 have HOP:=zhd (ziw (w0:=w) (w:=w) (c:=fun _=>0) (r:=1) (n:=700) (by omega) (by omega) (by omega) (Fr.refl _ _) (fun _ _=>rfl) (fun _ _=>rfl))
 obtain⟨KA,kc,rfl,hk1,hk2,hk3⟩:=hk
 have HK3:=zhd hk3
 unfold maxLen at hk2
 clear hk3
 go_enter Tryz.func7,Tryz.ntmps7
 go_wp2_with fail
 refine HOP.out.mono ?_
 rintro e w1 ⟨tp,rfl,H1⟩
 have P1:Hid (PlRel w (w.heap.size+1) 0 (.pointer (some ⟨tp,0,none⟩)) (.slice none 0 0) (.slice none 0 0) (.slice none 0 0) (.slice none 0 0) (.int .i64 ((0:Nat):Int)) w1):=zhd (by
  obtain⟨f1,c1,ag1,a1⟩:=H1.out
  have nilp:PairsAt (Dt c1) w1 (.slice none 0 0) []:=⟨[],⟨none,0,rfl,Nat.le_refl _,Nat.zero_le _,rfl,fun h=>absurd rfl h⟩,.nil⟩
  exact PlRel.mk a1.toS ⟨nilp,nilp,World.ownsRow_nil _ _ _ _,fun b e=>by simp[Value.ownBlock] at e,⟨[],World.ownsRow_nil _ _ _ _,.nil⟩,fun b e=>by simp[Value.ownBlock] at e⟩ (by simp) (List.Perm.refl _))
 obtain⟨d,hd⟩:∃d,d=w.heap.size+1:=⟨_,rfl⟩
 rw[←hd] at P1
 rw[←hd]
 clear HOP H1 hd
 go_wp2_with fail
 go_loopw [4,5,6,7,8,9,10] (fun t nw kp sn ol nb i wr=>∃kk:Nat,kk≤40∧i=.int .i64 (kk:Int)∧PlRel w d kk t nw kp sn ol nb wr) (fun _ _ _ _ _ _ i _=>40-(intOf i).toNat)
 case atStart=>exact⟨0,by omega,rfl,P1.out⟩
 case round=>
  obtain⟨kk,hk,rfl,tp,NA,nc,KA2,kc2,SA,sc,OA,oc,La,Ll,S2,N,rfl,rfl,rfl,rfl,rfl,rfl,hS4,hNk,hLa,hLl,HP⟩:=hrel
  clear P1
  by_cases hlt:kk<acts.length∧kk<40
  · obtain⟨hlt1,hlt2⟩:=hlt
    obtain⟨c,SL,hA,hR,hPM⟩:=HP.out
    have HA:=zhd hA
    have HR:=zhd hR
    have HPM:=zhd hPM
    obtain⟨g,o,kv,vv,hKA,hact⟩:=HK3.out kk hlt1
    subst hKA
    have h1:(kk:Int)<(acts.length:Int):=by omega
    have h2:(kk:Int)<40:=by omega
    generalize acts[kk]=x at *
    obtain⟨kd,nn,key,val,af,kp,tn,ct⟩:=x
    have q0:=hA.fr.cell0 hact.c0
    have q1:=hA.fr.cell0 hact.c1
    have q2:=hA.fr.cell0 hact.c2
    have q3:=hA.fr.cell0 hact.c3
    have q4:=hA.fr.cell0 hact.c4
    have q5:=hA.fr.cell0 hact.c5
    have q6:=hA.fr.cell0 hact.c6
    have q7:=hA.fr.cell0 hact.c7
    have hnw:=hact.nw
    obtain⟨A1,n1,rfl,hn1,hn2⟩:=hact.key.form
    obtain⟨A2,n2,rfl,hn3,hn4⟩:=hact.value.form
    have HKV:=zhd (And.intro hact.key hact.value)
    simp only[] at q0 q1 q2 q3 q4 q5 q6 q7 hn1 hn3 hnw
    clear hact hA hR hPM HP
    go_upto_region 12 with fail
    have HB:Hid (DBlk c (wr.alloc (.cells #[.int .i64 kd,.int .i64 nn,.slice A1 key.length n1,.slice A2 val.length n2,.int .i64 af,.int .u64 kp,.int .i64 tn,.int .i64 ct] 43)) wr.heap.size _):=zhd ⟨heap_alloc_new wr (.cells #[.int .i64 kd,.int .i64 nn,.slice A1 key.length n1,.slice A2 val.length n2,.int .i64 af,.int .u64 kp,.int .i64 tn,.int .i64 ct] 43),HA.out.cl _ (Nat.le_refl _)⟩
    have HFA:=zhd ((Fr.refl C0 wr).alloc (.cells #[.int .i64 kd,.int .i64 nn,.slice A1 key.length n1,.slice A2 val.length n2,.int .i64 af,.int .u64 kp,.int .i64 tn,.int .i64 ct] 43))
    clear q0 q1 q2 q3 q4 q5 q6 q7
    generalize wr.alloc (.cells #[.int .i64 kd,.int .i64 nn,.slice A1 key.length n1,.slice A2 val.length n2,.int .i64 af,.int .u64 kp,.int .i64 tn,.int .i64 ct] 43)=wa at *
    generalize wr.heap.size=bx at *
    have b2:wa.cell? ⟨bx,2,none⟩=some (.slice A1 key.length n1):=z2g HB.out.1 2 rfl
    have b3:wa.cell? ⟨bx,3,none⟩=some (.slice A2 val.length n2):=z2g HB.out.1 3 rfl
    unfold maxLen at hn2 hn4
    obtain⟨m,hm64,hml,hmm⟩:∃m:Nat,m≤70∧m≤key.length∧(if (70:Int)<(key.length:Int) then(70:Int) else(key.length:Int))=(m:Int):=⟨min key.length 70,by omega,by omega,by split<;>omega⟩
    obtain⟨m2,hm200,hml2,hmm2⟩:∃m:Nat,m≤200∧m≤val.length∧(if (200:Int)<(val.length:Int) then(200:Int) else(val.length:Int))=(m:Int):=⟨min val.length 200,by omega,by omega,by split<;>omega⟩
    have hmm3:min ((key.length:Nat):Int) 70=(m:Int):=by omega
    have hmm4:min ((val.length:Nat):Int) 200=(m2:Int):=by omega
    have hmc:(m:Int)≤(n1:Int):=by omega
    have hmc2:(m2:Int)≤(n2:Int):=by omega
    refine z1r (Fr C0 wa) [] (by kernel_rfl) ?_
    have hSw0:(Fr C0 wa) _:=(Fr.refl C0 wa).drew
    refine tk 0 hSw0 ?_
    refine tk 1 hSw0 ?_ (hy:=by intro w_ hS_;have c2:=hS_.cell0 b2;have c3:=hS_.cell0 b3;first|(go_simp;done)|(go_simp;with_reducible rfl))
    refine tk 2 hSw0 ?_
    refine tk 3 hSw0 ?_ (hy:=by intro w_ hS_;have c2:=hS_.cell0 b2;have c3:=hS_.cell0 b3;first|(go_simp;done)|(go_simp;with_reducible rfl))
    refine tk 4 hSw0 ?_ (hy:=by intro w_ hS_;have c2:=hS_.cell0 b2;have c3:=hS_.cell0 b3;first|(go_simp;done)|(go_simp;with_reducible rfl))
    refine tk 5 hSw0 ?_ (hy:=by intro w_ hS_;have c2:=hS_.cell0 b2;have c3:=hS_.cell0 b3;first|(go_simp;done)|(go_simp;with_reducible rfl))
    refine tk 6 hSw0 ?_
    refine tk 7 hSw0 ?_
    refine tk 8 hSw0 ?_ (hy:=by intro w_ hS_;have c2:=hS_.cell0 b2;have c3:=hS_.cell0 b3;first|(go_simp;done)|(go_simp;with_reducible rfl))
    refine tk 9 hSw0 ?_
    refine tk 10 hSw0 ?_ (hy:=by intro w_ hS_;have c2:=hS_.cell0 b2;have c3:=hS_.cell0 b3;first|(go_simp;done)|(go_simp;with_reducible rfl))
    refine tk 11 hSw0 ?_ (hy:=by intro w_ hS_;have c2:=hS_.cell0 b2;have c3:=hS_.cell0 b3;first|(go_simp;done)|(go_simp;with_reducible rfl))
    refine tk 12 hSw0 ?_ (hy:=by intro w_ hS_;have c2:=hS_.cell0 b2;have c3:=hS_.cell0 b3;first|(go_simp;done)|(go_simp;with_reducible rfl))
    refine tk 13 hSw0 ?_
    refine tk 14 hSw0 ?_
    refine tk 15 hSw0 ?_
    refine z1q (by kernel_rfl) ?_ _
    have HBD:=zhd (HB.out.fr0 (Fr.refl C0 wa).drew)
    have HAD:=zhd (HA.out.fr0 (HFA.out.trans0 (Fr.refl C0 wa).drew))
    have HRD:=zhd (HR.out.fr0 (HFA.out.trans0 (Fr.refl C0 wa).drew))
    have HKD:=zhd ((HAD.out.came HKV.out.1).take hml)
    have HVD:=zhd ((HAD.out.came HKV.out.2).take hml2)
    have HKL:Hid ((key.take m).length=m):=zhd (by rw[List.length_take];omega)
    have HVL:Hid ((val.take m2).length=m2):=zhd (by rw[List.length_take];omega)
    have b0:wa.drew.cell? ⟨bx,0,none⟩=some (.int .i64 kd):=z2g HBD.out.1 0 rfl
    clear HB HA HR HFA HKV b2 b3 hmm hmm2 hmm3 hmm4
    generalize wa.drew=wb at *
    generalize key.take m=x at *
    generalize val.take m2=v at *
    have HW:=zhd (zki HKD.out HVD.out)
    obtain⟨W,hWW⟩:∃W,W=wrong x v:=⟨_,rfl⟩
    rw[←hWW] at HW
    have HWW:=zhd hWW
    clear hWW
    go_wp2_with fail
    refine HW.out.mono ?_
    rintro e wc ⟨rfl,rfl⟩
    clear HW
    go_upto_block 2 with fail
    go_cut [4,5,6,7,8,9] (fun t nw kp sn ol nb wx=>PlRel w d (kk+1) t nw kp sn ol nb wx)
    case first=>
     by_cases hk0:kd=0
     · as_aux_lemma=>
        subst hk0
        have HPU:=zhd (zjw HAD.out HKD.out HVD.out (by omega) (by omega))
        rw[←HWW.out] at HPU
        go_wp2_with fail
        refine HPU.out.mono ?_
        rintro e w3 ⟨rfl,H3⟩
        obtain⟨c3,a3,s3⟩:=H3.out
        have A3:=zhd a3
        have R3:=zhd (HRD.out.step s3)
        by_cases hW0:W=0
        · have HLP:=zhd (zip (x:=(x,v)) R3.out.n (s3.bytes (by omega) HKD.out) (s3.bytes (by omega) HVD.out) (by rw[HKL.out];omega) (by rw[HVL.out];omega) (by omega))
          have HPW:Hid (putW x v La=putL (x,v) La):=zhd (by unfold putW;rw[if_pos (HWW.out.symm.trans hW0)])
          subst hW0
          clear HPU H3 a3 s3 HBD HAD HRD HKD HVD b0
          go_wp2_with fail
          refine HLP.out.mono ?_
          rintro e w4 ⟨A4,c4,rfl,H4⟩
          have HEND:Hid (PlRel w d (kk+1) (.pointer (some ⟨tp,0,none⟩)) (.slice A4 (putL (x,v) La).length c4) (.slice KA2 Ll.length kc2) (.slice SA S2.length sc) (.slice OA S2.length oc) (.int .i64 (N:Int)) w4):=zhd (by
           have a4:=A3.out.fr0 H4.out.1
           rw[HPW.out] at a4
           exact PlRel.mk a4 ((R3.out.fr0 H4.out.1).new (zit A3.out.cl H4.out.2)) hS4 HPM.out)
          clear HLP H4 R3 A3
          go_wp2_with fail
          go_meet
          case rel=>exact HEND.out
        · have hW1:((W:Int) == 0)=false:=beq_false_of_ne (by omega)
          have HEND:Hid (PlRel w d (kk+1) (.pointer (some ⟨tp,0,none⟩)) (.slice NA La.length nc) (.slice KA2 Ll.length kc2) (.slice SA S2.length sc) (.slice OA S2.length oc) (.int .i64 (N:Int)) w3):=zhd (by
           have a4:=A3.out
           rw[show putW x v La=La by unfold putW;rw[if_neg (by rw[←HWW.out];exact hW0)]] at a4
           exact PlRel.mk a4 R3.out hS4 HPM.out)
          clear HPU H3 a3 s3 HBD HAD HRD HKD HVD b0 R3 A3
          go_wp2_with fail
          go_meet
          case rel=>exact HEND.out
     have hk0b:(kd == 0)=false:=beq_false_of_ne hk0
     by_cases hk1:kd=1
     · as_aux_lemma=>
        subst hk1
        have HDL:=zhd (zjx HAD.out HKD.out (by omega) (by omega))
        rw[zka HAD.out.sorted] at HDL
        have HSO:=zhd HAD.out.sorted
        obtain⟨W2,hW2⟩:∃W2,W2=wrong x []:=⟨_,rfl⟩
        obtain⟨ab,hab⟩:∃b,b=atB x La:=⟨_,rfl⟩
        rw[←hW2,←hab] at HDL
        obtain⟨okb,hok⟩:∃b,b=(ab && decide (W2=0)):=⟨_,rfl⟩
        rw[←hok] at HDL
        have HW2:=zhd hW2
        have HABB:=zhd hab
        have HOK:=zhd hok
        clear hW2 hab hok
        go_wp2_with fail
        refine HDL.out.mono ?_
        rintro e w3 ⟨rfl,H3⟩
        obtain⟨c3,a3,s3⟩:=H3.out
        have A3:=zhd a3
        have R3:=zhd (HRD.out.step s3)
        have K3:=zhd (s3.bytes (by omega) HKD.out)
        have HWL:=zhd (zki K3.out (zfr (F:=fun _=>True) (w:=w3)))
        rw[←HW2.out] at HWL
        clear HDL H3 a3 s3 HBD HAD HRD HKD HVD b0
        go_wp2_with fail
        refine HWL.out.mono ?_
        rintro e wz ⟨rfl,rfl⟩
        have HAT:=zhd (zin R3.out.n K3.out)
        rw[←HABB.out] at HAT
        generalize atN x La=at_ at *
        clear HWL HABB
        go_wp2_with fail
        refine HAT.out.mono ?_
        rintro e w4 ⟨rfl,f4⟩
        have F4:=zhd f4
        clear HAT f4
        by_cases hW0:W2=0
        · have hk9:=HOK.out
          rw[decide_eq_true hW0,Bool.and_true] at hk9
          have HLD:=zhd (zkh HSO.out (R3.out.fr0 F4.out).n (K3.out.fr0 F4.out) (by omega))
          have HDW:Hid (delW x La=delL x La):=zhd (by unfold delW;rw[if_pos (HW2.out.symm.trans hW0)])
          subst hW0
          subst hk9
          clear HOK HW2 HSO
          cases okb with
          | false =>
            go_wp2_with fail
            refine HLD.out.mono ?_
            rintro e w5 ⟨A5,c5,rfl,H5⟩
            have HEND:Hid (PlRel w d (kk+1) (.pointer (some ⟨tp,0,none⟩)) (.slice A5 (delL x La).length c5) (.slice KA2 Ll.length kc2) (.slice SA S2.length sc) (.slice OA S2.length oc) (.int .i64 (N:Int)) w5):=zhd (by
             have a5:=(A3.out.fr0 F4.out).fr0 H5.out.1
             rw[HDW.out] at a5
             exact PlRel.mk (a5.le (by omega)) (((R3.out.fr0 F4.out).fr0 H5.out.1).new (zit (A3.out.fr0 F4.out).cl H5.out.2)) hS4 HPM.out)
            clear HLD H5 R3 A3
            go_wp2_with fail
            go_meet
            case rel=>exact HEND.out
          | true =>
            go_wp2_with fail
            refine HLD.out.mono ?_
            rintro e w5 ⟨A5,c5,rfl,H5⟩
            have HEND:Hid (PlRel w d (kk+1) (.pointer (some ⟨tp,0,none⟩)) (.slice A5 (delL x La).length c5) (.slice KA2 Ll.length kc2) (.slice SA S2.length sc) (.slice OA S2.length oc) (.int .i64 (N:Int)) w5):=zhd (by
             have a5:=(A3.out.fr0 F4.out).fr0 H5.out.1
             rw[HDW.out] at a5
             exact PlRel.mk (a5.le (by omega)) (((R3.out.fr0 F4.out).fr0 H5.out.1).new (zit (A3.out.fr0 F4.out).cl H5.out.2)) hS4 HPM.out)
            clear HLD H5 R3 A3
            go_wp2_with fail
            go_meet
            case rel=>exact HEND.out
        · have hk9:=HOK.out
          rw[decide_eq_false hW0,Bool.and_false] at hk9
          have hW1:((W2:Int) == 0)=false:=beq_false_of_ne (by omega)
          have HEND:Hid (PlRel w d (kk+1) (.pointer (some ⟨tp,0,none⟩)) (.slice NA La.length nc) (.slice KA2 Ll.length kc2) (.slice SA S2.length sc) (.slice OA S2.length oc) (.int .i64 (N:Int)) w4):=zhd (by
           have a4:=A3.out.fr0 F4.out
           rw[show delW x La=La by unfold delW;rw[if_neg (by rw[←HW2.out];exact hW0)]] at a4
           exact PlRel.mk (a4.le (by omega)) (R3.out.fr0 F4.out) hS4 HPM.out)
          subst hk9
          clear HOK HW2 HSO R3 A3
          cases ab with
          | false =>
            go_wp2_with fail
            go_meet
            case rel=>exact HEND.out
          | true =>
            go_wp2_with fail
            go_meet
            case rel=>exact HEND.out
     have hk1b:(kd == 1)=false:=beq_false_of_ne hk1
     by_cases hk4:kd=4
     · as_aux_lemma=>
        subst hk4
        have HC:=zhd (zjy HAD.out (by rw[←HPM.out.length_eq];exact hS4) (by omega))
        have hwN:IntKind.i64.wrap ((N:Int)+1)=((N+1:Nat):Int):=by rw[z0t _ (by omega) (by omega)];omega
        go_wp2_with fail
        refine HC.out.mono ?_
        rintro e w3 ⟨rfl,H3⟩
        have HEND:Hid (PlRel w d (kk+1) (.pointer (some ⟨tp,0,none⟩)) (.slice NA La.length nc) (.slice NA La.length nc) (.slice SA S2.length sc) (.slice OA S2.length oc) (.int .i64 ((N+1:Nat):Int)) w3):=zhd (by
         obtain⟨c3,a3,s3⟩:=H3.out
         exact PlRel.mk a3 (HRD.out.step s3).keep hS4 HPM.out)
        clear HC H3 HBD HAD HRD HKD HVD b0
        go_wp2_with fail
        go_meet
        case rel=>exact HEND.out
     have hk4b:(kd == 4)=false:=beq_false_of_ne hk4
     by_cases hk5:kd=5
     · as_aux_lemma=>
        subst hk5
        have HC:=zhd (zjz HAD.out)
        go_wp2_with fail
        refine HC.out.mono ?_
        rintro e w3 ⟨rfl,H3⟩
        have HEND:Hid (PlRel w d (kk+1) (.pointer (some ⟨tp,0,none⟩)) (.slice KA2 Ll.length kc2) (.slice KA2 Ll.length kc2) (.slice SA S2.length sc) (.slice OA S2.length oc) (.int .i64 (N:Int)) w3):=zhd (by
         obtain⟨a3,s3⟩:=H3.out
         exact PlRel.mk (a3.le (by omega)) (HRD.out.step s3).back hS4 HPM.out)
        clear HC H3 HBD HAD HRD HKD HVD b0
        go_wp2_with fail
        go_meet
        case rel=>exact HEND.out
     have hk5b:(kd == 5)=false:=beq_false_of_ne hk5
     by_cases hk6:kd=6
     · as_aux_lemma=>
        subst hk6
        by_cases h3:S2.length≤3
        · have HS:=zhd (zk0 HAD.out (by rw[←HPM.out.length_eq];exact h3))
          have h4:(S2.length:Int)<4:=by omega
          go_wp2_with fail
          refine HS.out.mono ?_
          rintro e w3 ⟨sp,rfl,H3⟩
          obtain⟨c3,a3,s3⟩:=H3.out
          have A3:=zhd a3
          have R3:=zhd (HRD.out.step s3)
          obtain⟨xs,o1,o2⟩:=R3.out.o
          have O1:=zhd o1
          have O2:=zhd o2
          clear HS H3 a3 s3 HBD HAD HRD HKD HVD b0 o1 o2
          go_upto_region 41 with fail
          go_wp2_with (at_builtin;first
           | (refine z0l z2q rfl _ _ rfl (v := .slice SA S2.length sc) (xv := .slice (some ⟨w3.heap.size, 0, none⟩) 1 1) rfl rfl (B := 0) (z0m R3.out.s ((Fr.refl C0 w3).alloc _) (fun _ _ h => h)) (Row.ofBlock (F := fun _ => True) (heap_alloc_new _ _) trivial (by unfold maxLen; omega) rfl) (by simp [Value.oneCell']) (by unfold maxLen; omega) (by omega) (Nat.zero_le _) ?_
              intro v5 w5 o5 f5 k5 nil5
              obtain⟨A5,c5,rfl,-⟩:=z0o o5
              have O5:=zhd o5
              have K5:=zhd k5
              have F5:=zhd f5
              have OV5:=zhd (z0m (z0m O1.out ((Fr.refl C0 w3).alloc (.cells #[.pointer (some ⟨sp,0,none⟩)] 57)) (fun _ _ h=>h)) f5 (fun b e e2=>by
               rcases O1.out.2 with⟨e1,_⟩|⟨g1,_,_,e1,_,hg1,_⟩
               · rw[e1] at e;simp[Value.ownBlock] at e
               · rcases R3.out.s.2 with⟨e3,_⟩|⟨g3,_,_,e3,_,hg3,_⟩
                 · rw[e3] at e2;simp[Value.ownBlock] at e2
                 · rw[e1] at e
                   rw[e3] at e2
                   simp[Value.ownBlock] at e e2
                   subst e e2
                   rw[hg1] at hg3
                   injection hg3 with hg3
                   injection hg3 with h7 h8
                   exact absurd h8 (by decide)))
              clear o5 f5 k5 nil5)
           | (refine z0l zl1 rfl _ _ rfl (v := .slice OA S2.length oc) (xv := .slice (some ⟨w5.heap.size, 0, none⟩) 1 1) rfl rfl (B := 0) (z0m OV5.out ((Fr.refl C0 w5).alloc _) (fun _ _ h => h)) (Row.ofBlock (F := fun _ => True) (heap_alloc_new _ _) trivial (by unfold maxLen; omega) rfl) (by simp [Value.oneCell']) (by unfold maxLen; omega) (by omega) (Nat.zero_le _) ?_
              intro v6 w6 o6 f6 k6 nil6
              obtain⟨A6,c6,rfl,-⟩:=z0o o6))
          have HEND:Hid (PlRel w d (kk+1) (.pointer (some ⟨tp,0,none⟩)) (.slice NA La.length nc) (.slice KA2 Ll.length kc2) (.slice A5 (S2.length+1) c5) (.slice A6 (S2.length+1) c6) (.int .i64 (N:Int)) w6):=zhd (by
           obtain⟨c',a',r',-⟩:=zky A3.out R3.out ((Fr.refl C0 w3).alloc _) O5.out F5.out K5.out ((Fr.refl C0 w5).alloc _) O2.out O1.out o6 f6 k6
           have:=PlRel.mk (a'.le (Nat.le_succ _)) r' (by rw[List.length_append];simp;omega) (List.Perm.append_right _ HPM.out)
           exact this)
          clear O1 O2 O5 K5 F5 OV5 R3 A3 o6 f6 k6 nil6
          go_meet
          case rel=>exact HEND.out
        · have HS:=zhd (zkv HAD.out (by rw[←HPM.out.length_eq];omega))
          have h4:¬(S2.length:Int)<4:=by omega
          go_wp2_with fail
          refine HS.out.mono ?_
          rintro e w3 ⟨rfl,f3⟩
          have HEND:Hid (PlRel w d (kk+1) (.pointer (some ⟨tp,0,none⟩)) (.slice NA La.length nc) (.slice KA2 Ll.length kc2) (.slice SA S2.length sc) (.slice OA S2.length oc) (.int .i64 (N:Int)) w3):=zhd (PlRel.mk ((HAD.out.fr0 f3).le (by omega)) (HRD.out.fr0 f3) hS4 HPM.out)
          clear HS f3 HBD HAD HRD HKD HVD b0
          go_wp2_with fail
          go_meet
          case rel=>exact HEND.out
     have hk6b:(kd == 6)=false:=beq_false_of_ne hk6
     by_cases hk7:kd=7∨kd=8
     · as_aux_lemma=>
        by_cases hS0:S2=[]
        · have hl0:((S2.length:Nat):Int)=0:=by rw[hS0];rfl
          have HEND:Hid (PlRel w d (kk+1) (.pointer (some ⟨tp,0,none⟩)) (.slice NA La.length nc) (.slice KA2 Ll.length kc2) (.slice SA S2.length sc) (.slice OA S2.length oc) (.int .i64 (N:Int)) wb):=zhd (PlRel.mk (HAD.out.le (by omega)) HRD.out hS4 HPM.out)
          clear HBD HAD HRD HKD HVD hS0 HPM
          rcases hk7 with rfl|rfl
          all_goals
           go_wp2_with fail
           go_roundw
           case rel=>exact⟨kk+1,by omega,by go_num,HEND.out⟩
           case measure=>simp[intOf];omega
        · obtain⟨n,hn⟩:∃n,S2.length=n+1:=⟨S2.length-1,by have:=List.length_pos_iff.2 hS0;omega⟩
          have hl0:((S2.length:Nat):Int)≠0:=by omega
          have hl1:(((S2.length:Nat):Int) == 0)=false:=beq_false_of_ne hl0
          have hm1:bits .and .i64 nn 65535=nn % 65536:=zl0 nn 16 65535 (by omega) (by decide)
          obtain⟨j,hj1,hj2⟩:∃j:Nat,j<S2.length∧(nn % 65536).tmod (S2.length:Int)=(j:Int):=⟨((nn % 65536) % (S2.length:Int)).toNat,by have:=Int.emod_lt_of_pos (nn % 65536) (b:=(S2.length:Int)) (by omega);have:=Int.emod_nonneg (nn % 65536) hl0;omega,by rw[Int.tmod_eq_emod_of_nonneg (by omega)];have:=Int.emod_nonneg (nn % 65536) hl0;omega⟩
          have hw3:IntKind.i64.wrap (j:Int)=(j:Int):=z0t _ (by omega) (by omega)
          have hjl:(j:Int)<(S2.length:Int):=by omega
          obtain⟨xs,ho1,ho2⟩:=HRD.out.o
          obtain⟨gs,hgs,hsc,hsm⟩:=zl3 HRD.out.s (by omega)
          obtain⟨go,hgo,hoc,hom⟩:=zl3 ho1 (by omega)
          have HSW:=zhd HRD.out.s
          have HO1:=zhd ho1
          rw[hgs] at HSW
          rw[hgo] at HO1
          have hxl:=All2.length ho2
          obtain⟨p,hp⟩:∃p,p=S2[j]:=⟨_,rfl⟩
          obtain⟨u,hu⟩:∃u,u=xs[j]'(by omega):=⟨_,rfl⟩
          have hmem:p∈SL:=HPM.out.subset (by rw[hp];exact List.getElem_mem hj1)
          obtain⟨UA,uc,hue,hup⟩:=All2.get j (by omega) hj1 ho2
          rw[←hu,←hp] at hue hup
          obtain⟨os,hos⟩:∃o,o=0:=⟨_,rfl⟩
          obtain⟨oo,hoo⟩:∃o,o=0:=⟨_,rfl⟩
          rw[←hos] at hgs
          rw[←hoo] at hgo
          subst hgs hgo
          have HOS:=zhd hos
          have HOO:=zhd hoo
          have HPP:=zhd hp
          obtain⟨hc1,-⟩:=zl2 HSW.out os HOS.out (j:=j) (u:=ptrV p) (by rw[List.getElem?_map,List.getElem?_eq_getElem hj1,hp];rfl)
          obtain⟨hc2,-⟩:=zl2 HO1.out oo HOO.out (j:=j) (u:=u) (by rw[List.getElem?_eq_getElem (by omega),hu])
          unfold ptrV at hc1
          have HST:=zhd (fun (cl:Bool) (w_:World) (hf:Fr C0 wb w_)=>zks cl (HAD.out.fr0 hf) hmem (hup.fr0 hf) (by omega))
          rw[hue] at hc2 HST
          have HN:=zhd hn
          unfold maxLen at hsm hom
          have hscI:(n:Int)≤(sc:Int):=by omega
          have hocI:(n:Int)≤(oc:Int):=by omega
          have hln1:((S2.length:Nat):Int)-1=(n:Int):=by omega
          have hwn1:IntKind.i64.wrap (n:Int)=(n:Int):=z0t _ (by omega) (by omega)
          have HMEM:=zhd hmem
          have HAD2:=zhd HAD.out
          have b1:wb.cell? ⟨bx,1,none⟩=some (.int .i64 nn):=z2g HBD.out.1 1 rfl
          have HBW:=zhd (HBD.out.fr0 (Fr.refl C0 wb).drew)
          have HRW:=zhd (HRD.out.fr0 (Fr.refl C0 wb).drew)
          clear hp hu hue hup hos hoo hmem hn ho1 ho2 hxl HSW HO1 HBD HRD HKD HVD HAD hS0
          rcases hk7 with rfl|rfl
          · as_aux_lemma=>
             go_upto_region 48 with fail
             refine z1r (Fr C0 wb) [11,12] (by kernel_rfl) ?_
             have hSw0:(Fr C0 wb) _:=(Fr.refl C0 wb).drew
             refine tkU 0 hSw0 ?_
             refine tkU 1 hSw0 ?_
             refine tkU 2 hSw0 ?_
             refine tkU 3 hSw0 ?_ (hy:=by intro w_ hS_;have d0:=hS_.cell0 hc1;have d1:=hS_.cell0 hc2;have d2:=hS_.cell0 b0;first|(go_simp;done)|(go_simp;with_reducible rfl))
             refine tkU 4 hSw0 ?_
             refine tkU 5 hSw0 ?_
             refine tkU 6 hSw0 ?_
             refine tkU 7 hSw0 ?_ (hy:=by intro w_ hS_;have d0:=hS_.cell0 hc1;have d1:=hS_.cell0 hc2;have d2:=hS_.cell0 b0;first|(go_simp;done)|(go_simp;with_reducible rfl))
             refine tkU 8 hSw0 ?_
             refine tkU 9 hSw0 ?_ (hy:=by intro w_ hS_;have d0:=hS_.cell0 hc1;have d1:=hS_.cell0 hc2;have d2:=hS_.cell0 b0;first|(go_simp;done)|(go_simp;with_reducible rfl))
             refine tkU 10 hSw0 ?_
             refine z1o 11 rfl (fun K hK=>?_)
             go_simp
             refine(HST.out false _ (Fr.refl C0 wb).drew).mono ?_
             rintro e w3 ⟨rfl,H3⟩
             simp only[]
             refine hK.out _ _ ?_;clear hK K
             try simp only[Act.put,zs1,zs2,zs3]
             refine tkT 12 ?_
             refine z1q (by kernel_rfl) ?_ _
             obtain⟨c3,a3,s3⟩:=H3.out
             have e0:w3.cell? ⟨bx,0,none⟩=some (.int .i64 7):=z2g (s3.blk (by omega) HBW.out).1 0 rfl
             have HEND:Hid (PlRel w d (kk+1) (.pointer (some ⟨tp,0,none⟩)) (.slice NA La.length nc) (.slice KA2 Ll.length kc2) (.slice (some ⟨gs,os,none⟩) S2.length sc) (.slice (some ⟨go,oo,none⟩) S2.length oc) (.int .i64 (N:Int)) w3):=zhd (PlRel.mk (SAt.le (k':=kk+1) (by simpa using a3) (by omega)) (HRW.out.step s3) hS4 HPM.out)
             clear H3 a3 s3 HST HBW HRW hc1 hc2 b0 b1
             go_wp2_with fail
             go_meet
             case rel=>exact HEND.out
          · as_aux_lemma=>
             go_upto_region 48 with fail
             refine z1r (Fr C0 wb) [11,12] (by kernel_rfl) ?_
             have hSw0:(Fr C0 wb) _:=(Fr.refl C0 wb).drew
             refine tkU 0 hSw0 ?_
             refine tkU 1 hSw0 ?_
             refine tkU 2 hSw0 ?_
             refine tkU 3 hSw0 ?_ (hy:=by intro w_ hS_;have d0:=hS_.cell0 hc1;have d1:=hS_.cell0 hc2;have d2:=hS_.cell0 b0;first|(go_simp;done)|(go_simp;with_reducible rfl))
             refine tkU 4 hSw0 ?_
             refine tkU 5 hSw0 ?_
             refine tkU 6 hSw0 ?_
             refine tkU 7 hSw0 ?_ (hy:=by intro w_ hS_;have d0:=hS_.cell0 hc1;have d1:=hS_.cell0 hc2;have d2:=hS_.cell0 b0;first|(go_simp;done)|(go_simp;with_reducible rfl))
             refine tkU 8 hSw0 ?_
             refine tkU 9 hSw0 ?_ (hy:=by intro w_ hS_;have d0:=hS_.cell0 hc1;have d1:=hS_.cell0 hc2;have d2:=hS_.cell0 b0;first|(go_simp;done)|(go_simp;with_reducible rfl))
             refine tkU 10 hSw0 ?_
             refine z1o 11 rfl (fun K hK=>?_)
             go_simp
             refine(HST.out true _ (Fr.refl C0 wb).drew).mono ?_
             rintro e w3 ⟨rfl,H3⟩
             simp only[]
             refine hK.out _ _ ?_;clear hK K
             try simp only[Act.put,zs1,zs2,zs3]
             refine tkT 12 ?_
             refine z1q (by kernel_rfl) ?_ _
             obtain⟨c3,a3,s3⟩:=H3.out
             have e0:w3.cell? ⟨bx,0,none⟩=some (.int .i64 8):=z2g (s3.blk (by omega) HBW.out).1 0 rfl
             have A3:Hid (SAt w 698 d tp La Ll N kk (SL.filter fun q=>decide (q.1≠p.1)) c3 w3):=zhd (by simpa using a3)
             have R3:Hid (PlR (.slice NA La.length nc) (.slice KA2 Ll.length kc2) (.slice (some ⟨gs,0,none⟩) S2.length sc) (.slice (some ⟨go,0,none⟩) S2.length oc) La Ll S2 c3 w3):=zhd (by
              have:=HRW.out.step s3
              rwa [HOS.out,HOO.out] at this)
             have HNOD:=zhd (HAD2.out.sps)
             clear H3 a3 s3 HST HBW HRW hc1 hc2 b0 b1
             obtain⟨xs3,k1,k2⟩:=R3.out.o
             have hxl:=All2.length k2
             obtain⟨pl,hpl⟩:∃q,q=S2[n]'(by have:=HN.out;omega):=⟨_,rfl⟩
             obtain⟨y,hy⟩:∃q,q=xs3[n]'(by have:=HN.out;omega):=⟨_,rfl⟩
             obtain⟨YA,yc,hye,-⟩:=All2.get n (by have:=HN.out;omega) (by have:=HN.out;omega) k2
             rw[←hy,←hpl] at hye
             obtain⟨l1,-⟩:=zl2 R3.out.s os HOS.out (j:=n) (u:=ptrV pl) (by rw[List.getElem?_map,List.getElem?_eq_getElem (by have:=HN.out;omega),hpl];rfl)
             obtain⟨l2,-⟩:=zl2 k1 oo HOO.out (j:=n) (u:=y) (by rw[List.getElem?_eq_getElem (by have:=HN.out;omega),hy])
             obtain⟨u1,z1⟩:=zl2 R3.out.s os HOS.out (j:=j) (u:=ptrV S2[j]) (by rw[List.getElem?_map,List.getElem?_eq_getElem hj1];rfl)
             obtain⟨v0,hv0⟩:∃v0,xs3[j]?=some v0:=⟨_,List.getElem?_eq_getElem (by omega)⟩
             obtain⟨u2,z2⟩:=zl2 k1 oo HOO.out (j:=j) hv0
             have hne:gs≠go:=fun e=>by
              rcases R3.out.s.2 with⟨e1,_⟩|⟨g,cap,cur,e1,_,hg,_⟩
              · cases e1
              · rcases k1.2 with⟨e2,_⟩|⟨g',cap',cur',e2,_,hg',_⟩
                · cases e2
                · injection e1 with e1
                  injection e1 with e1
                  injection e1 with e1
                  injection e2 with e2
                  injection e2 with e2
                  injection e2 with e2
                  subst e1 e2
                  rw[←e,hg] at hg'
                  injection hg' with hg'
                  injection hg' with h4 h5
                  exact absurd h5 (by decide)
             have fs:=(Fr.refl (fun b=>b=gs) w3).setCell (p:=⟨gs,os+j,none⟩) (.inr rfl) (ptrV pl)
             have u2':=fs.cell u2 (fun e=>hne e.symm)
             have z2':=(fs.frozen (World.block_lt_of_cell? _ _ u2) (fun e=>hne e.symm)).trans z2
             have HDR:Hid (SAt w 698 d tp La Ll N kk (SL.filter fun q=>decide (q.1≠p.1)) c3 ((w3.setCell ⟨gs,os+j,none⟩ (ptrV pl)).setCell ⟨go,oo+j,none⟩ y)∧PlR (.slice NA La.length nc) (.slice KA2 Ll.length kc2) (.slice (some ⟨gs,os,none⟩) n sc) (.slice (some ⟨go,oo,none⟩) n oc) La Ll ((S2.set j pl).take n) c3 ((w3.setCell ⟨gs,os+j,none⟩ (ptrV pl)).setCell ⟨go,oo+j,none⟩ y)):=zhd (by
              have hn:=HN.out
              have:=zl6 A3.out R3.out rfl hj1 k2 k1 (x:=ptrV pl) (y:=y) (by rw[List.getElem?_map,List.getElem?_eq_getElem (by omega),hpl];simp only[Option.map_some];congr 3;omega) (by rw[List.getElem?_eq_getElem (by omega),hy];congr 2;omega)
              have e9:S2.length-1=n:=by omega
              have e8:(S2[S2.length-1]'(by omega))=pl:=by rw[hpl];congr 1
              rw[e8,e9] at this
              rw[HOS.out,HOO.out,Nat.zero_add]
              exact this)
             have HPL:=zhd hpl
             subst hye
             unfold ptrV at HDR l1 u1 u2' z2'
             clear hy hpl k1 k2 fs R3 A3 u2 z2 hne hv0 hxl
             have HPERM:Hid (((S2.set j pl).take n).Perm (SL.filter fun q=>decide (q.1≠p.1))):=zhd (by
              have hn:=HN.out
              have h1:=zkz (l:=S2) hj1 (by omega)
              have e9:S2.length-1=n:=by omega
              have e8:(S2[S2.length-1]'(by omega))=pl:=by rw[HPL.out];congr 1
              rw[e8,e9,←HPP.out] at h1
              have h2:=HPM.out.symm.trans h1
              have h3:=h2.filter (fun q=>decide (q.1≠p.1))
              rw[zkw ((h2.map Prod.fst).nodup_iff.1 HNOD.out)] at h3
              exact h3.symm)
             have HLEN:Hid (((S2.set j pl).take n).length≤4):=zhd (by rw[List.length_take];omega)
             have hnl:n<S2.length:=by have:=HN.out;omega
             have hnl1:(n:Int)<(S2.length:Int):=by omega
             go_upto_region 51 with fail
             go_cut [] (fun wx=>Hid (SAt w 698 d tp La Ll N kk (SL.filter fun q=>decide (q.1≠p.1)) c3 wx∧PlR (.slice NA La.length nc) (.slice KA2 Ll.length kc2) (.slice (some ⟨gs,os,none⟩) n sc) (.slice (some ⟨go,oo,none⟩) n oc) La Ll ((S2.set j pl).take n) c3 wx))
             case first=>
              clear HPERM HLEN HNOD
              refine z1r (Fr (fun b=>b=gs∨b=go) w3) [19] (by kernel_rfl) ?_
              have hSw0:(Fr (fun b=>b=gs∨b=go) w3) _:=(Fr.refl (fun b=>b=gs∨b=go) w3).drew
              refine tk 0 hSw0 ?_
              refine tk 1 hSw0 ?_
              refine tk 2 hSw0 ?_
              refine tk 3 hSw0 ?_
              refine tk 4 hSw0 ?_
              refine tk 5 hSw0 ?_
              refine tk 6 hSw0 ?_
              refine tk 7 hSw0 ?_
              refine tk 8 hSw0 ?_
              refine tk 10 hSw0 ?_
              refine tk 11 hSw0 ?_
              refine tk 12 hSw0 ?_
              refine tk 13 hSw0 ?_
              refine tk 14 hSw0 ?_
              refine z1p 9 15 rfl rfl (by kernel_rfl) rfl rfl (fun K hK=>?_) (fun K hK=>?_)
              · skip
                go_simp
                refine hK.out _ _ ?kS1 (fun hSw1=>?kR1)
                case kS1=>exact(Fr.refl (fun b=>b=gs∨b=go) w3).drew
                clear hK K
                try simp only[Act.put,zs1,zs2,zs3]
                refine one_ 15 rfl (fun K hK=>?_)
                go_simp
                refine hK.out _ _ ?kS2 (fun hSw2=>?kR2)
                case kS2=>exact(Fr.refl (fun b=>b=gs∨b=go) w3).drew
                clear hK K
                try simp only[Act.put,zs1,zs2,zs3]
                refine tk 16 hSw2 ?_
                refine one_ 17 rfl (fun K hK=>?_)
                go_simp
                refine hK.out _ _ ?kS3 (fun hSw3=>?kR3)
                case kS3=>exact((Fr.refl (fun b=>b=gs∨b=go) w3).setCell (p:=⟨gs,os+j,none⟩) (.inr (.inl rfl)) _).drew
                clear hK K
                try simp only[Act.put,zs1,zs2,zs3]
                refine tk 18 hSw3 ?_
                refine z1o 19 rfl (fun K hK=>?_)
                go_simp
                refine hK.out _ _ ?_;clear hK K
                try simp only[Act.put,zs1,zs2,zs3]
                refine z1q (by kernel_rfl) ?_ _
                go_wp2_with fail
                go_meet
                case rel=>exact zhd ⟨HDR.out.1.fr0 (Fr.refl C0 _).drew,HDR.out.2.fr0 (Fr.refl C0 _).drew⟩
              · skip
                go_simp
                refine hK.out _ _ ?kS4 (fun hSw5=>?kR4)
                case kS4=>exact(Fr.refl (fun b=>b=gs∨b=go) w3).drew
                clear hK K
                try simp only[Act.put,zs1,zs2,zs3]
                refine one_ 9 rfl (fun K hK=>?_)
                go_simp
                refine hK.out _ _ ?kS5 (fun hSw6=>?kR5)
                case kS5=>exact(Fr.refl (fun b=>b=gs∨b=go) w3).drew
                clear hK K
                try simp only[Act.put,zs1,zs2,zs3]
                refine tk 16 hSw6 ?_
                refine one_ 17 rfl (fun K hK=>?_)
                go_simp
                refine hK.out _ _ ?kS6 (fun hSw7=>?kR6)
                case kS6=>exact((Fr.refl (fun b=>b=gs∨b=go) w3).setCell (p:=⟨gs,os+j,none⟩) (.inr (.inl rfl)) _).drew
                clear hK K
                try simp only[Act.put,zs1,zs2,zs3]
                refine tk 18 hSw7 ?_
                refine z1o 19 rfl (fun K hK=>?_)
                go_simp
                refine hK.out _ _ ?_;clear hK K
                try simp only[Act.put,zs1,zs2,zs3]
                refine z1q (by kernel_rfl) ?_ _
                go_wp2_with fail
                go_meet
                case rel=>exact zhd ⟨HDR.out.1.fr0 (Fr.refl C0 _).drew,HDR.out.2.fr0 (Fr.refl C0 _).drew⟩
             case rest=>
              clear HDR l1 l2 u1 z1 u2' z2' e0
              have HEND:Hid (PlRel w d (kk+1) (.pointer (some ⟨tp,0,none⟩)) (.slice NA La.length nc) (.slice KA2 Ll.length kc2) (.slice (some ⟨gs,os,none⟩) n sc) (.slice (some ⟨go,oo,none⟩) n oc) (.int .i64 (N:Int)) wc.drew):=zhd (PlRel.mk ((hcut.out.1.fr0 (Fr.refl C0 wc).drew).le (by omega)) (hcut.out.2.fr0 (Fr.refl C0 wc).drew) HLEN.out HPERM.out)
              clear hcut HPERM HLEN HNOD
              go_upto_region 52 with fail
              refine z1r (Fr C0 wc) [] (by kernel_rfl) ?_
              have hSw0:(Fr C0 wc) _:=(Fr.refl C0 wc).drew
              refine tk 0 hSw0 ?_
              refine tk 1 hSw0 ?_
              refine tk 2 hSw0 ?_
              refine tk 3 hSw0 ?_
              refine tk 4 hSw0 ?_
              refine tk 5 hSw0 ?_
              refine tk 6 hSw0 ?_
              refine tk 7 hSw0 ?_
              refine tk 8 hSw0 ?_
              refine tk 9 hSw0 ?_
              refine tk 10 hSw0 ?_
              refine tk 11 hSw0 ?_
              refine z1q (by kernel_rfl) ?_ _
              go_wp2_with fail
              go_meet
              case rel=>exact HEND.out
     have hk7b:(kd == 7)=false:=beq_false_of_ne (by omega)
     have hk8b:(kd == 8)=false:=beq_false_of_ne (by omega)
     by_cases hk9:kd=9
     · as_aux_lemma=>
        subst hk9
        have e4:wb.cell? ⟨bx,4,none⟩=some (.int .i64 af):=z2g HBD.out.1 4 rfl
        have e5:wb.cell? ⟨bx,5,none⟩=some (.int .u64 kp):=z2g HBD.out.1 5 rfl
        have e6:wb.cell? ⟨bx,6,none⟩=some (.int .i64 tn):=z2g HBD.out.1 6 rfl
        have e7:wb.cell? ⟨bx,7,none⟩=some (.int .i64 ct):=z2g HBD.out.1 7 rfl
        have HC:=zhd (zkt (a:=af) (kp:=kp) (tn:=tn) (ct:=ct) HAD.out (by omega) (by omega))
        go_wp2_with fail
        refine HC.out.mono ?_
        rintro e w3 ⟨tp2,rfl,H3⟩
        have HEND:Hid (PlRel w d (kk+1) (.pointer (some ⟨tp2,0,none⟩)) (.slice KA2 Ll.length kc2) (.slice KA2 Ll.length kc2) (.slice none 0 0) (.slice none 0 0) (.int .i64 (N:Int)) w3):=zhd (by
         obtain⟨c3,a3,s3⟩:=H3.out
         exact PlRel.mk (a3.le (by omega)) (HRD.out.step s3).back.none (by simp) (List.Perm.refl _))
        clear HC H3 HBD HAD HRD HKD HVD b0 e4 e5 e6 e7
        go_wp2_with fail
        go_meet
        case rel=>exact HEND.out
     have hk9b:(kd == 9)=false:=beq_false_of_ne hk9
     as_aux_lemma=>
      have e1:wb.cell? ⟨bx,1,none⟩=some (.int .i64 nn):=z2g HBD.out.1 1 rfl
      have e2:wb.cell? ⟨bx,2,none⟩=some (.slice A1 key.length n1):=z2g HBD.out.1 2 rfl
      have e3:wb.cell? ⟨bx,3,none⟩=some (.slice A2 val.length n2):=z2g HBD.out.1 3 rfl
      have e4:wb.cell? ⟨bx,4,none⟩=some (.int .i64 af):=z2g HBD.out.1 4 rfl
      have e5:wb.cell? ⟨bx,5,none⟩=some (.int .u64 kp):=z2g HBD.out.1 5 rfl
      have e6:wb.cell? ⟨bx,6,none⟩=some (.int .i64 tn):=z2g HBD.out.1 6 rfl
      have e7:wb.cell? ⟨bx,7,none⟩=some (.int .i64 ct):=z2g HBD.out.1 7 rfl
      have HC:=zhd (zkp (kd:=kd) (n:=nn) (l1:=af) (l2:=kp) (l3:=tn) (l4:=ct) (A2:=A1) (m2:=key.length) (c2:=n1) (A3:=A2) (m3:=val.length) (c3:=n2) HAD.out HRD.out.n HKD.out HVD.out hnw (by omega))
      go_wp2_with fail
      refine HC.out.mono ?_
      rintro e w3 ⟨rfl,f3⟩
      have HEND:Hid (PlRel w d (kk+1) (.pointer (some ⟨tp,0,none⟩)) (.slice NA La.length nc) (.slice KA2 Ll.length kc2) (.slice SA S2.length sc) (.slice OA S2.length oc) (.int .i64 (N:Int)) w3):=zhd (PlRel.mk ((HAD.out.fr0 f3).le (by omega)) (HRD.out.fr0 f3) hS4 HPM.out)
      clear HC f3 HBD HAD HRD HKD HVD b0 e1 e2 e3 e4 e5 e6 e7
      go_wp2_with fail
      go_meet
      case rel=>exact HEND.out
    case rest=>
     as_aux_lemma=>
      clear HBD HAD HRD HKD HVD HWW b0 HPM
      obtain⟨tp,NA,nc,KA,kc,SA,sc,OA,oc,La,Ll,S2,N,rfl,rfl,rfl,rfl,rfl,rfl,hS4,hNk,hLa,hLl,HP⟩:=hcut
      have HL:=zhd (show Calls Tryz.prog 15 #[.pointer (some ⟨tp,0,none⟩)] wc fun e w'=>e=.returned (.int .i64 (La.length:Int))∧wc=w' from by obtain⟨c,SL,a,_⟩:=HP.out;exact zk1 a)
      have HN:=zhd (show Calls Tryz.prog 20 #[.pointer (some ⟨tp,0,none⟩)] wc fun e w'=>e=.returned (.int .i64 (N:Int))∧wc=w' from by obtain⟨c,SL,a,_⟩:=HP.out;exact zk2 a)
      have HCK:=zhd (show Calls Tryz.prog 18 #[.pointer (some ⟨tp,0,none⟩)] wc fun e w'=>e=.returned (.int .i64 0)∧Fr C0 wc w' from by obtain⟨c,SL,a,_⟩:=HP.out;exact zk3 a)
      go_wp2_with fail
      refine HL.out.mono ?_
      rintro e w9 ⟨rfl,rfl⟩
      go_wp2_with fail
      refine HN.out.mono ?_
      rintro e w9 ⟨rfl,rfl⟩
      go_wp2_with fail
      refine HCK.out.mono ?_
      rintro e w9 ⟨rfl,f9⟩
      have HR9:Hid (PlRel w d (kk+1) (.pointer (some ⟨tp,0,none⟩)) (.slice NA La.length nc) (.slice KA Ll.length kc) (.slice SA S2.length sc) (.slice OA S2.length oc) (.int .i64 (N:Int)) w9):=zhd (by
       obtain⟨c,SL,a,r,p⟩:=HP.out
       exact PlRel.mk (a.fr0 f9) (r.fr0 f9) hS4 p)
      clear HL HN HCK HP f9
      go_wp2_with fail
      go_roundw
      case rel=>exact⟨kk+1,by omega,by go_num,HR9.out⟩
      case measure=>simp[intOf];omega
  · as_aux_lemma=>
     have hex:¬(kk:Int)<(acts.length:Int)∨(kk:Int)<(acts.length:Int)∧¬(kk:Int)<40:=by omega
     obtain⟨c,SL,hA,hR,hPM⟩:=HP.out
     have HT:=zhd (zfm hA.cl)
     have HRD:=zhd (fun (w_:World) (hf:Fr C0 wr w_)=>zkp (kd:=0) (n:=999) (l1:=0) (l2:=0) (l3:=0) (l4:=0) (A2:=none) (m2:=0) (c2:=0) (A3:=none) (m3:=0) (c3:=0) (hA.fr0 hf) (hR.fr0 hf).n zfr zfr (by omega) (by omega))
     have HF:=zhd hA.fr
     clear hA hR hPM HP hlt
     rcases hex with h1|⟨h1,h2⟩
     all_goals
      go_wp2_with fail
      refine HT.out.mono ?_
      rintro e w8 ⟨rfl,f8⟩
      have F8:=zhd f8
      clear f8
      go_wp2_with fail
      refine(HRD.out _ F8.out).mono ?_
      rintro e w9 ⟨rfl,f9⟩
      have F9:=zhd ((HF.out.trans0 F8.out).trans0 f9)
      clear f9
      go_wp2_with fail
      go_ret
      exact⟨rfl,F9.out⟩
end
end Go.Proofs.YtcmicdcikechkaaGreat
