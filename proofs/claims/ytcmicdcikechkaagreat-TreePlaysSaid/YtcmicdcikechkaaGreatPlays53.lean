import Derived.Test.YtcmicdcikechkaaGreatPlays52
import Derived.Test.YtcmicdcikechkaaGreatPlays51
set_option linter.all false
set_option autoImplicit true
set_option relaxedAutoImplicit true
namespace Go.Proofs.YtcmicdcikechkaaGreat
open Go.RowKit Go.H
set_option maxRecDepth 100000
section
set_option maxHeartbeats 2000000
variable {w0 w w' : World} {pn d tp N k : Nat} {La Ll : List KV} {c c' : Nat → Nat} {SL : List (Nat × List KV)}
theorem SAt.ok (h:SAt w0 pn d tp La Ll N k SL c w):∀x∈La,KVok x:=by
 obtain⟨Z,a,b,_⟩:=h
 rw[←b];exact a.tr.ok
theorem zkm (h:SAt w0 pn d tp La Ll N k SL c w) (hk:BytesAt (Dt c) w kv x):
 Calls Tryz.prog 13 #[.pointer (some ⟨tp,0,none⟩),kv] w fun e w'=>∃A m cp,e=.returned (.tuple #[.slice A m cp,.bool (atB x La && decide (wrong x []=0)),.int .i64 (wrong x []:Int)])∧Hid (Fr C0 w w'∧(wrong x []=0→∀b,getL x La=some b→BytesAt (fun b=>w.heap.size≤b) w' (.slice A m cp) b)):=by
 have hso:=h.sorted
 obtain⟨Z,a,rfl,rfl,g,i⟩:=h
 by_cases hw:wrong x []=0
 · refine(zfb a.tr hk hw).mono ?_
   rintro e w' ⟨f,⟨hX,_⟩|h2⟩
   · exact hX.elim
   · rw[←zka hso,hw]
     cases hg:getL x (rootL Z.now) with
     | none =>
       rw[hg] at h2
       exact⟨none,0,0,h2,zhd ⟨f,fun _ b e=>by cases e⟩⟩
     | some b =>
       rw[hg] at h2
       obtain⟨v,rfl,hb⟩:=h2
       obtain⟨A,cp,rfl,-⟩:=hb.form
       exact⟨A,_,cp,rfl,zhd ⟨f,fun _ b' e=>by injection e with e;subst e;exact hb⟩⟩
 · obtain⟨st,lm,km,nr,lr,gv,ov,sn,t⟩:=a.tr
   refine(zkj t.hd hk hw).mono ?_
   rintro e w' ⟨rfl,f⟩
   exact⟨none,0,0,by rw[decide_eq_false hw,Bool.and_false],zhd ⟨f,fun e=>absurd e hw⟩⟩
theorem zkn {n:Nat} (h:SAt w0 pn d tp La Ll N k SL c w) (hn:n≤9223372036854775807) (hlo:BytesAt (Dt c) w lov lo) (hhi:BytesAt (Dt c) w hiv hi) (hl1:lo.length≤64) (hl2:hi.length≤64):
 Calls Tryz.prog 21 #[.pointer (some ⟨tp,0,none⟩),lov,hiv,.int .i64 (n:Int)] w fun e w'=>∃A cp,e=.returned (.tuple #[.slice A ((rangeL lo hi La).take n).length cp,.int .i64 0])∧Hid (Fr C0 w w'∧∃c' q,Out w.heap.size c' q w' (.slice A ((rangeL lo hi La).take n).length cp) ((rangeL lo hi La).take n)):=by
 obtain⟨Z,a,rfl,rfl,g,i⟩:=h
 obtain⟨q,hq1,hq2,hq3⟩:=zfq a.tr.cl [1,2,3]
 refine(zfc hq2 (hq3 1 (by simp)) (hq3 2 (by simp)) hq1 hn a.tr hlo hhi hl1 hl2).mono ?_
 rintro e' w' ⟨f,v',c',rfl,ag,cl,o⟩
 obtain⟨A,cp,rfl,-⟩:=o.form
 exact⟨A,cp,rfl,zhd ⟨f,c',q,o⟩⟩
theorem zko {n:Int} (h:SAt w0 pn d tp La Ll N k SL c w) (hlo:BytesAt F w lov lo) (hhi:BytesAt G w hiv hi) (hw:rwrong n lo hi≠0):
 Calls Tryz.prog 21 #[.pointer (some ⟨tp,0,none⟩),lov,hiv,.int .i64 n] w fun e w'=>e=.returned (.tuple #[.slice none 0 0,.int .i64 (rwrong n lo hi:Int)])∧Fr C0 w w':=by
 obtain⟨Z,a,rfl,rfl,g,i⟩:=h
 exact zkl a.tr hlo hhi hw
theorem zkp {kd n l1 l2 l3 l4:Int} {m2 c2 m3 c3:Nat} (h:SAt w0 pn d tp La Ll N k SL c w) (hnow:PairsAt (Dt c) w nv La) (hk:BytesAt (Dt c) w kv x) (hv:BytesAt (Dt c) w vv v) (hn:-9223372036854775808≤n∧n≤9223372036854775807) (hk9:k≤900):
 Calls Tryz.prog 36 #[.pointer (some ⟨tp,0,none⟩),nv,kv,vv,.agg #[.int .i64 kd,.int .i64 n,.slice A2 m2 c2,.slice A3 m3 c3,.int .i64 l1,.int .u64 l2,.int .i64 l3,.int .i64 l4]] w fun e w'=>e=.returned (.bool true)∧Fr C0 w w':=by
 have hlen:=h.len
 have HOK:=zhd h.ok
 have HSO:=zhd h.sorted
 have HGA:=zhd (zk9 (k:=x) h.sorted)
 have HG:=zhd (fun (w_:World) (hf:Fr C0 w w_)=>zkm (h.fr0 hf) (hk.fr0 hf))
 have HW:=zhd (fun (w_:World) (hf:Fr C0 w w_)=>zki (hk.fr0 hf) (zfr (F:=fun _=>True) (w:=w_)))
 have HAT:=zhd (fun (w_:World) (hf:Fr C0 w w_)=>zin (hnow.fr0 hf) (hk.fr0 hf))
 have HR:=zhd (fun (w_:World) (hf:Fr C0 w w_) (n':Nat) (h1:n'≤9223372036854775807) (h2:x.length≤64) (h3:v.length≤64)=>zkn (n:=n') (h.fr0 hf) h1 (hk.fr0 hf) (hv.fr0 hf) h2 h3)
 have HRW:=zhd (fun (w_:World) (hf:Fr C0 w w_) (h1:rwrong n x v≠0)=>zko (n:=n) (h.fr0 hf) (hk.fr0 hf) (hv.fr0 hf) h1)
 have HLR:=zhd (fun (w_:World) (hf:Fr C0 w w_) (n':Nat)=>zkf (n:=n') (hnow.fr0 hf) (hk.fr0 hf) (hv.fr0 hf) (by omega))
 have HNOW:=zhd hnow
 obtain⟨NA,nc,rfl,hnc1,hnc2⟩:=hnow.form
 obtain⟨KA,kc,rfl,-⟩:=hk.form
 obtain⟨VA,vc,rfl,-⟩:=hv.form
 obtain⟨W,hW⟩:∃W,W=wrong x []:=⟨_,rfl⟩
 obtain⟨ab,hab⟩:∃b,b=atB x La:=⟨_,rfl⟩
 obtain⟨ok,hok⟩:∃b,b=(ab && decide (W=0)):=⟨_,rfl⟩
 rw[←hab,←hW,←hok] at HG
 rw[←hW] at HW
 rw[←hab] at HAT HGA
 have hle:=zif x La
 generalize atN x La=at_ at *
 have HOKB:=zhd hok
 clear h hnow hk hv hW hab hok
 unfold maxLen at hnc2
 have F0:=zhd ((Fr.refl C0 w).alloc (.cells #[.int .i64 kd,.int .i64 n,.slice A2 m2 c2,.slice A3 m3 c3,.int .i64 l1,.int .u64 l2,.int .i64 l3,.int .i64 l4] 43))
 have q1:(w.alloc (.cells #[.int .i64 kd,.int .i64 n,.slice A2 m2 c2,.slice A3 m3 c3,.int .i64 l1,.int .u64 l2,.int .i64 l3,.int .i64 l4] 43)).cell? ⟨w.heap.size,1,none⟩=some (.int .i64 n):=z2g (heap_alloc_new w _) 1 rfl
 go_enter Tryz.func36,Tryz.ntmps36
 go_wp2_with fail
 generalize w.alloc (.cells #[.int .i64 kd,.int .i64 n,.slice A2 m2 c2,.slice A3 m3 c3,.int .i64 l1,.int .u64 l2,.int .i64 l3,.int .i64 l4] 43)=wa at *
 refine(HG.out _ F0.out).mono ?_
 rintro e w1 ⟨GA,gm,gc,rfl,H1⟩
 have F1:=zhd (F0.out.trans0 H1.out.1)
 have G1:=zhd H1.out.2
 replace q1:=H1.out.1.cell0 q1
 clear H1 HG
 go_wp2_with fail
 refine(HW.out _ F1.out).mono ?_
 rintro e w1 ⟨rfl,rfl⟩
 clear HW
 go_wp2_with fail
 refine(HAT.out _ F1.out).mono ?_
 rintro e w2 ⟨rfl,f2⟩
 have F2:=zhd (F1.out.trans0 f2)
 have F12:=zhd f2
 replace q1:=f2.cell0 q1
 clear HAT f2
 go_upto_region 4 with fail
 go_cut [61] (fun s wx=>s=.bool false∧w2.drew=wx)
 case first=>
  clear HR HRW HLR
  by_cases hW0:W=0
  · subst hW0
    cases ab with
    | false =>
      have hok:=HOKB.out
      rw[Bool.false_and] at hok
      subst hok
      refine z1r (Fr C0 w2) [] (by kernel_rfl) ?_
      have hSw0:(Fr C0 w2) _:=(Fr.refl C0 w2).drew
      refine tk 0 hSw0 ?_
      refine tk 1 hSw0 ?_
      refine tk 2 hSw0 ?_
      refine tk 3 hSw0 ?_
      refine tk 4 hSw0 ?_
      refine tk 5 hSw0 ?_
      refine tk 6 hSw0 ?_
      refine tks 7 rfl hSw0 ?_
      try simp only[Act.put,zs1,zs2,zs3]
      refine tks 8 rfl hSw0 ?_
      try simp only[Act.put,zs1,zs2,zs3]
      refine tk 9 hSw0 ?_
      refine tk 10 hSw0 ?_
      refine tk 11 hSw0 ?_
      refine tk 12 hSw0 ?_
      refine tk 13 hSw0 ?_
      refine tk 14 hSw0 ?_
      refine tks 15 rfl hSw0 ?_
      try simp only[Act.put,zs1,zs2,zs3]
      refine tks 16 rfl hSw0 ?_
      try simp only[Act.put,zs1,zs2,zs3]
      refine tks 17 rfl hSw0 ?_
      try simp only[Act.put,zs1,zs2,zs3]
      refine tks 18 rfl hSw0 ?_
      try simp only[Act.put,zs1,zs2,zs3]
      refine tks 19 rfl hSw0 ?_
      try simp only[Act.put,zs1,zs2,zs3]
      refine tks 20 rfl hSw0 ?_
      try simp only[Act.put,zs1,zs2,zs3]
      refine tks 21 rfl hSw0 ?_
      try simp only[Act.put,zs1,zs2,zs3]
      refine tks 22 rfl hSw0 ?_
      try simp only[Act.put,zs1,zs2,zs3]
      refine tks 23 rfl hSw0 ?_
      try simp only[Act.put,zs1,zs2,zs3]
      refine tk 24 hSw0 ?_
      refine tk 25 hSw0 ?_
      refine z1q (by kernel_rfl) ?_ _
      go_wp2_with fail
      go_meet
      case rel=>exact⟨rfl,rfl⟩
    | true =>
      have hok:=HOKB.out
      rw[decide_eq_true rfl,Bool.true_and] at hok
      subst hok
      obtain⟨hlt,hgv⟩:=HGA.out.1 rfl
      have hb:=(G1.out rfl _ hgv).fr0 ((Fr.refl C0 w1).trans0 (F12.out))
      obtain⟨ga,oa,kva,vva,rfl,a0,a1,a2,a3,a4⟩:=(HNOW.out.fr0 F2.out).at_ at_ hlt
      obtain⟨x1,y1,sa3,sb3,E1⟩:=str2 hb a4
      obtain⟨_,_,e9,-⟩:=hb.form
      injection e9 with e91 e92 e93
      subst e91 e92 e93
      obtain⟨_,_,rfl,-⟩:=a4.form
      have e1:=E1.out
      rw[decide_eq_true rfl] at e1
      have hlt1:(at_:Int)<(La.length:Int):=by omega
      clear a3 a4 hb hgv E1
      refine z1r (Fr C0 w2) [] (by kernel_rfl) ?_
      have hSw0:(Fr C0 w2) _:=(Fr.refl C0 w2).drew
      refine tk 0 hSw0 ?_
      refine tk 1 hSw0 ?_
      refine tk 2 hSw0 ?_
      refine tk 3 hSw0 ?_
      refine tk 4 hSw0 ?_
      refine tk 5 hSw0 ?_
      refine tk 6 hSw0 ?_
      refine tk 7 hSw0 ?_
      refine tk 8 hSw0 ?_
      refine tk 9 hSw0 ?_
      refine tk 10 hSw0 ?_
      refine tk 11 hSw0 ?_
      refine tk 12 hSw0 ?_
      refine tk 13 hSw0 ?_
      refine tk 14 hSw0 ?_
      refine tk 15 hSw0 ?_
      refine tk 16 hSw0 ?_ (hy:=by intro w_ hS_;have k3:=sa3.out _ hS_;have l3:=sb3.out _ hS_;first|(go_simp;done)|(go_simp;with_reducible rfl))
      refine tk 17 hSw0 ?_
      refine tk 18 hSw0 ?_
      refine tk 19 hSw0 ?_
      refine tk 20 hSw0 ?_
      refine tk 21 hSw0 ?_ (hy:=by intro w_ hS_;have c0:=hS_.cell0 a0;have c1:=hS_.cell0 a1;have c2:=hS_.cell0 a2;first|(go_simp;done)|(go_simp;with_reducible rfl))
      refine tk 22 hSw0 ?_ (hy:=by intro w_ hS_;have k3:=sa3.out _ hS_;have l3:=sb3.out _ hS_;first|(go_simp;done)|(go_simp;with_reducible rfl))
      refine tk 23 hSw0 ?_
      refine tk 24 hSw0 ?_
      refine tk 25 hSw0 ?_
      refine z1q (by kernel_rfl) ?_ _
      go_wp2_with fail
      go_meet
      case rel=>exact⟨rfl,rfl⟩
  · have hok:=HOKB.out
    rw[decide_eq_false hW0,Bool.and_false] at hok
    subst hok
    have hW1:((W:Int) == 0)=false:=beq_false_of_ne (by omega)
    cases ab with
    | false =>
      refine z1r (Fr C0 w2) [] (by kernel_rfl) ?_
      have hSw0:(Fr C0 w2) _:=(Fr.refl C0 w2).drew
      refine tk 0 hSw0 ?_
      refine tk 1 hSw0 ?_
      refine tk 2 hSw0 ?_
      refine tk 3 hSw0 ?_
      refine tk 4 hSw0 ?_
      refine tk 5 hSw0 ?_
      refine tk 6 hSw0 ?_
      refine tks 7 rfl hSw0 ?_
      try simp only[Act.put,zs1,zs2,zs3]
      refine tks 8 rfl hSw0 ?_
      try simp only[Act.put,zs1,zs2,zs3]
      refine tk 9 hSw0 ?_
      refine tk 10 hSw0 ?_
      refine tk 11 hSw0 ?_
      refine tk 12 hSw0 ?_
      refine tk 13 hSw0 ?_
      refine tk 14 hSw0 ?_
      refine tks 15 rfl hSw0 ?_
      try simp only[Act.put,zs1,zs2,zs3]
      refine tks 16 rfl hSw0 ?_
      try simp only[Act.put,zs1,zs2,zs3]
      refine tks 17 rfl hSw0 ?_
      try simp only[Act.put,zs1,zs2,zs3]
      refine tks 18 rfl hSw0 ?_
      try simp only[Act.put,zs1,zs2,zs3]
      refine tks 19 rfl hSw0 ?_
      try simp only[Act.put,zs1,zs2,zs3]
      refine tks 20 rfl hSw0 ?_
      try simp only[Act.put,zs1,zs2,zs3]
      refine tks 21 rfl hSw0 ?_
      try simp only[Act.put,zs1,zs2,zs3]
      refine tks 22 rfl hSw0 ?_
      try simp only[Act.put,zs1,zs2,zs3]
      refine tks 23 rfl hSw0 ?_
      try simp only[Act.put,zs1,zs2,zs3]
      refine tk 24 hSw0 ?_
      refine tk 25 hSw0 ?_
      refine z1q (by kernel_rfl) ?_ _
      go_wp2_with fail
      go_meet
      case rel=>exact⟨rfl,rfl⟩
    | true =>
      refine z1r (Fr C0 w2) [] (by kernel_rfl) ?_
      have hSw0:(Fr C0 w2) _:=(Fr.refl C0 w2).drew
      refine tk 0 hSw0 ?_
      refine tk 1 hSw0 ?_
      refine tk 2 hSw0 ?_
      refine tk 3 hSw0 ?_
      refine tk 4 hSw0 ?_
      refine tk 5 hSw0 ?_
      refine tk 6 hSw0 ?_
      refine tk 7 hSw0 ?_
      refine tk 8 hSw0 ?_
      refine tk 9 hSw0 ?_
      refine tk 10 hSw0 ?_
      refine tk 11 hSw0 ?_
      refine tk 12 hSw0 ?_
      refine tk 13 hSw0 ?_
      refine tk 14 hSw0 ?_
      refine tks 15 rfl hSw0 ?_
      try simp only[Act.put,zs1,zs2,zs3]
      refine tks 16 rfl hSw0 ?_
      try simp only[Act.put,zs1,zs2,zs3]
      refine tks 17 rfl hSw0 ?_
      try simp only[Act.put,zs1,zs2,zs3]
      refine tks 18 rfl hSw0 ?_
      try simp only[Act.put,zs1,zs2,zs3]
      refine tks 19 rfl hSw0 ?_
      try simp only[Act.put,zs1,zs2,zs3]
      refine tks 20 rfl hSw0 ?_
      try simp only[Act.put,zs1,zs2,zs3]
      refine tks 21 rfl hSw0 ?_
      try simp only[Act.put,zs1,zs2,zs3]
      refine tks 22 rfl hSw0 ?_
      try simp only[Act.put,zs1,zs2,zs3]
      refine tks 23 rfl hSw0 ?_
      try simp only[Act.put,zs1,zs2,zs3]
      refine tk 24 hSw0 ?_
      refine tk 25 hSw0 ?_
      refine z1q (by kernel_rfl) ?_ _
      go_wp2_with fail
      go_meet
      case rel=>exact⟨rfl,rfl⟩
 case rest=>
  obtain⟨rfl,rfl⟩:=hcut
  clear G1 HGA HOKB HSO
  have F3:=zhd F2.out.drew
  replace q1:=(Fr.refl C0 w2).drew.cell0 q1
  clear F12 F2 F1
  generalize w2.drew=w3 at *
  obtain⟨rw_,hrw⟩:∃r,r=rwrong n x v:=⟨_,rfl⟩
  by_cases h0:rw_=0
  · have hrw2:=hrw.symm.trans h0
    unfold rwrong at hrw2
    have hn0:¬n<0:=fun e=>by rw[if_pos e] at hrw2;cases hrw2
    rw[if_neg hn0] at hrw2
    have hl:¬(64<x.length∨64<v.length):=fun e=>by rw[if_pos e] at hrw2;cases hrw2
    have hl1:¬(64:Int)<(x.length:Int):=by omega
    have hl2:¬(64:Int)<(v.length:Int):=by omega
    obtain⟨N2,rfl⟩:∃N2:Nat,n=(N2:Int):=⟨n.toNat,by omega⟩
    have HRR:=zhd (HR.out _ F3.out N2 (by omega) (by omega) (by omega))
    clear hrw hrw2 h0 HR HRW hl
    obtain⟨R,hR⟩:∃R,R=(rangeL x v La).take N2:=⟨_,rfl⟩
    have HRE:Hid (∀p∈R,p.1.length≤100000∧p.2.length≤100000):=zhd (by
     intro p hp
     rw[hR] at hp
     have:=HOK.out p (List.mem_filter.1 (List.mem_of_mem_take hp)).1
     exact⟨by have:=this.2.1;omega,by have:=this.2.2;omega⟩)
    have HLR2:=zhd (fun (w_:World) (hf:Fr C0 w w_)=>HLR.out w_ hf N2)
    rw[←hR] at HRR HLR2
    clear hR HLR
    go_wp2_with fail
    refine HRR.out.mono ?_
    rintro e w4 ⟨RA,rc,rfl,H4⟩
    have F4:=zhd (F3.out.trans0 H4.out.1)
    replace q1:=H4.out.1.cell0 q1
    go_wp2_with fail
    refine(HLR2.out _ F4.out).mono ?_
    rintro e w5 ⟨LA,lc,rfl,H5⟩
    have F45:=zhd H5.out.1
    have F5:=zhd (F4.out.trans0 H5.out.1)
    have HSM:Hid (Calls Tryz.prog 22 #[.slice RA R.length rc,.slice LA R.length lc] w5 fun e w'=>e=.returned (.bool true)∧Fr C0 w5 w'):=zhd (by
     obtain⟨-,c',q,o⟩:=H4.out
     have:=zf0 (OutAt.pairs (F:=fun _=>True) (o.fr0 F45.out) (fun _ _ _=>trivial)) H5.out.2
     rwa [decide_eq_true rfl] at this)
    clear HRR HLR2
    go_wp2_with fail
    refine HSM.out.mono ?_
    rintro e w6 ⟨rfl,f6⟩
    have F6:=zhd (F5.out.trans0 f6)
    have HOUT:Hid (∃c' q,Out w3.heap.size c' q w6 (.slice RA R.length rc) R):=zhd (by
     obtain⟨-,c',q,o⟩:=H4.out
     exact⟨c',q,(o.fr0 F45.out).fr0 f6⟩)
    have F36:=zhd ((H4.out.1.trans0 F45.out).trans0 f6)
    clear HSM H4 H5 f6 F45 F4 F5 q1
    go_upto_region 14 with fail
    cases R with
    | nil =>
      go_wp2_with fail
      refine wp_loop_rounds 1 ?_;rw[rounds_succ]
      go_wp2_with fail
      go_ret
      exact⟨rfl,F6.out⟩
    | cons p0 R0 =>
      have hRne:p0::R0≠[]:=by simp
      generalize p0::R0=R at *
      obtain⟨c',q,ho'⟩:=HOUT.out
      obtain⟨g,cap,ks,vs,e1,hcap,hrd⟩:=Rd.start F36.out ho' HRE.out hRne
      have hcm:cap≤9223372036854775807:=by
       obtain⟨A9,c9,e9,h9⟩:=(OutAt.pairs (F:=fun _=>True) ho' (fun _ _ _=>trivial)).form
       rw[e1] at e9
       injection e9 with e91 e92 e93
       unfold maxLen at h9
       omega
      have HF63:Hid (∀wz,Fr C0 w3 wz→Fr C0 w wz):=zhd (fun wz hz=>F3.out.trans0 hz)
      injection e1 with e1 e2 e3
      obtain⟨o,ho⟩:∃o,o=0:=⟨_,rfl⟩
      rw[←ho] at e1
      subst e1 e3
      have HO:=zhd ho
      have HRD:=zhd hrd
      clear ho hrd ho' F36 HOUT HRE hRne F6 F3 e2
      go_wp2_with fail
      go_loopw [19,20] (fun i _ wr=>∃kk:Nat,kk≤R.length∧i=.int .i64 (kk:Int)∧Hid (Rd w3 wr g R.length rc kk ks vs)) (fun i _ _=>R.length-(intOf i).toNat)
      case atStart=>exact⟨0,by omega,rfl,HRD.out⟩
      case round=>
       obtain⟨kk,hkk,rfl,HK⟩:=hrel
       clear HRD
       by_cases hlt:kk<R.length
       · have h1:(kk:Int)<(R.length:Int):=by omega
         obtain⟨kc1,kz1⟩:=HK.out.key hlt o HO.out
         obtain⟨KA2,km,kcap,kxs,ek,hown,hkm⟩:=(HK.out.softk hlt).own
         have hkne:¬(ks kk).ownBlock=some g:=by
          obtain⟨cur,hb,_⟩:=HK.out.ex
          exact(HK.out.softk hlt).ne hb
         rw[ek] at kc1 hkne hown
         have HOWN:=zhd hown
         have HKN:=zhd hkne
         clear hown hkne ek
         have kc2:=((Fr.refl C0 wr).alloc (.cells #[.int .u8 9] 5)).cell0 kc1
         go_wp2_with (at_builtin;go_must (refine zke z2k rfl _ _ rfl (v:=.slice KA2 km kcap) (xv:=.slice (some ⟨wr.heap.size,0,none⟩) 1 1) rfl rfl (B:=w3.heap.size) (z0m HOWN.out ((Fr.refl C0 wr).alloc _) (fun _ _ h=>h)) (Row.ofBlock (F:=fun _=>True) (heap_alloc_new wr _) trivial (by unfold maxLen;omega) rfl) (by omega) (by simp[Value.oneCell']) (by unfold maxLen;omega) (by omega) (Nat.le_trans HK.out.fr.size ((Fr.refl C0 wr).alloc _).size) ?_);intro v5 w5 o5 f5 s5;have R5:=zhd (Rd.app (HK.out.fr0 ((Fr.refl C0 wr).alloc _)) f5 s5 (fun b e=>(HOWN.out.lt b e).1) HKN.out);obtain⟨A5,c5,rfl,-⟩:=z0o o5;obtain⟨kc5,kz5⟩:=R5.out.key hlt o HO.out;clear o5 f5 s5)
         have R6:=zhd (R5.out.set o HO.out (.slice A5 (km+1) c5))
         clear R5 kc1 kz1 kc2 kc5 kz5 HK HOWN HKN
         generalize w5.setCell ⟨g,o+kk*3+1,none⟩ (.slice A5 (km+1) c5)=w7 at *
         have hv7:=R6.out.val hlt o HO.out
         rcases R6.out.softv hlt with ev|⟨gb,curb,m2,k2,ev,-,-,-,hm2,hk2,hm3⟩
         · rw[ev] at hv7
           clear ev
           go_wp2_with fail
           refine wp_loop_rounds 1 ?_;rw[rounds_succ]
           go_wp2_with fail
           go_roundw
           case rel=>exact⟨kk+1,by omega,by go_num,R6⟩
           case measure=>simp[intOf];omega
         · obtain⟨o2,ho2⟩:∃o,o=0:=⟨_,rfl⟩
           have HEV:=zhd ev
           have HVE:Hid (vs kk=.slice (some ⟨gb,o2,none⟩) m2 k2):=zhd (by rw[ho2];exact ev)
           have HO2:=zhd ho2
           unfold maxLen at hk2
           clear ev ho2 hv7
           go_wp2_with fail
           go_loopw [20] (fun j wj=>∃jj:Nat,jj≤m2∧j=.int .i64 (jj:Int)∧Hid (Rd w3 wj g R.length rc (kk+1) ks vs)) (fun j _=>m2-(intOf j).toNat)
           case atStart=>exact⟨0,by omega,rfl,R6⟩
           case round=>
            obtain⟨jj,hjj,rfl,HJ⟩:=hrel
            clear R6
            have hvj:=HJ.out.val hlt o HO.out
            rw[HVE.out] at hvj
            by_cases hlj:jj<m2
            · have h2:(jj:Int)<(m2:Int):=by omega
              obtain⟨⟨ub,hub⟩,zub⟩:=HJ.out.cells hlt HEV.out hlj o2 HO2.out
              have R8:=zhd (HJ.out.byte hlt HEV.out (o:=o2+jj) (.int .u8 9))
              clear HJ
              go_wp2_with fail
              go_roundw
              case rel=>exact⟨jj+1,by omega,by go_num,R8⟩
              case measure=>simp[intOf];omega
            · obtain rfl:jj=m2:=by omega
              clear hlj
              go_wp2_with fail
              go_roundw
              case rel=>exact⟨kk+1,by omega,by go_num,HJ⟩
              case measure=>simp[intOf];omega
       · obtain rfl:kk=R.length:=by omega
         have HF9:=zhd (HF63.out _ HK.out.fr)
         clear HK hlt
         go_wp2
         go_ret
         exact⟨rfl,HF9.out⟩
  · have HRR:=zhd (HRW.out _ F3.out (by rw[←hrw];exact h0))
    rw[←hrw] at HRR
    clear HR HRW HLR
    unfold rwrong at hrw
    by_cases hn0:n<0
    · rw[if_pos hn0] at hrw
      subst hrw
      go_wp2_with fail
      refine HRR.out.mono ?_
      rintro e w4 ⟨rfl,f4⟩
      have F4:=zhd (F3.out.trans0 f4)
      replace q1:=f4.cell0 q1
      clear HRR f4 h0
      go_wp2_with fail
      refine wp_loop_rounds 1 ?_;rw[rounds_succ]
      go_wp2_with fail
      go_ret
      exact⟨rfl,F4.out⟩
    · rw[if_neg hn0] at hrw
      have hl:64<x.length∨64<v.length:=Decidable.of_not_not fun e=>by rw[if_neg e] at hrw;exact h0 hrw
      rw[if_pos hl] at hrw
      subst hrw
      have h3:(64:Int)<(x.length:Int)∨¬(64:Int)<(x.length:Int)∧(64:Int)<(v.length:Int):=by omega
      clear hl h0
      rcases h3 with h3|⟨h3,h4⟩
      all_goals
       go_wp2_with fail
       refine HRR.out.mono ?_
       rintro e w4 ⟨rfl,f4⟩
       have F4:=zhd (F3.out.trans0 f4)
       replace q1:=f4.cell0 q1
       clear HRR f4
       go_wp2_with fail
       refine wp_loop_rounds 1 ?_;rw[rounds_succ]
       go_wp2_with fail
       go_ret
       exact⟨rfl,F4.out⟩
end
section
set_option maxHeartbeats 2000000
variable {w0 w w' : World} {pn d tp N k : Nat} {La Ll : List KV} {c c' : Nat → Nat} {SL : List (Nat × List KV)}
theorem zkq {sp:Nat} (h:SAt w0 pn d tp La Ll N k SL c w) (hm:(sp,L)∈SL) (hk:BytesAt (Dt c) w kv x) (hw:wrong x []=0):
 Calls Tryz.prog 68 #[.pointer (some ⟨sp,0,none⟩),kv] w fun e w'=>∃A m cp,e=.returned (.tuple #[.slice A m cp,.bool (atB x L),.int .i64 0])∧Hid (Fr C0 w w'∧∀b,getL x L=some b→BytesAt (fun b=>w.heap.size≤b) w' (.slice A m cp) b):=by
 obtain⟨Z,a,rfl,rfl,rfl,i⟩:=h
 obtain⟨s,hs,e⟩:=List.mem_map.1 hm
 injection e with e1 e2
 subst e1 e2
 obtain⟨st,lm,km,nr,lr,gv,ov,sn,t⟩:=a.tr
 obtain⟨v,hv⟩:=All2.memL t.sns.2.1 hs
 have hso:=(t.bk.kp.ok s hs).so
 refine(zk6 t.hd t.cl hv.blk (t.sns.2.2 s hs) hso hk hw).mono ?_
 rintro e w' ⟨f,⟨hX,_⟩|h2⟩
 · exact hX.elim
 · rw[←zka hso]
   cases hg:getL x (rootL s.root) with
   | none =>
     rw[hg] at h2
     exact⟨none,0,0,h2,zhd ⟨f,fun b e=>by cases e⟩⟩
   | some b =>
     rw[hg] at h2
     obtain⟨v,rfl,hb⟩:=h2
     obtain⟨A,cp,rfl,-⟩:=hb.form
     exact⟨A,_,cp,rfl,zhd ⟨f,fun b' e=>by injection e with e;subst e;exact hb⟩⟩
theorem SAt.sso {sp:Nat} (h:SAt w0 pn d tp La Ll N k SL c w) (hm:(sp,L)∈SL):Sorted L:=by
 obtain⟨Z,a,rfl,rfl,rfl,i⟩:=h
 obtain⟨s,hs,e⟩:=List.mem_map.1 hm
 injection e with e1 e2
 subst e1 e2
 exact(a.tr.bk.kp.ok s hs).so
theorem zkr (hF:F w.heap.size):BytesAt F (w.alloc (.cells #[.int .u8 107] 5 (1,2))) (.slice (some ⟨w.heap.size,0,none⟩) 1 1) [107]:=by
 refine z0i.2 ?_
 have:=Row.ofBlock (F:=F) (n:=1) (size:=1) (heap_alloc_new w (.cells #[.int .u8 107] 5 (1,2))) hF (by unfold maxLen;omega) rfl
 simpa [bv] using this
theorem zks {sp:Nat} (cl:Bool) (h:SAt w0 pn d tp La Ll N k SL c w) (hm:(sp,L)∈SL) (hu:PairsAt (Dt c) w u L) (hk3:k≤900):
 Calls Tryz.prog 35 #[.pointer (some ⟨sp,0,none⟩),u,.bool cl] w fun e w'=>e=.returned (.bool true)∧Hid (∃c',SAt w0 pn d tp La Ll N k (if cl then SL.filter fun p=>decide (p.1≠sp) else SL) c' w'∧StepA 1 c w c' w'):=by
 have HH:=zhd h
 have HM:=zhd hm
 have HU:=zhd hu
 obtain⟨A,ca,rfl,ha1,ha2⟩:=hu.form
 have hLk:=h.snk _ hm
 have HGA:=zhd (zk9 (k:=[107]) (h.sso hm))
 have hle:=zif [107] L
 unfold maxLen at ha2
 obtain⟨ab,hab⟩:∃b,b=atB [107] L:=⟨_,rfl⟩
 obtain⟨at_,hat⟩:∃b,b=atN [107] L:=⟨_,rfl⟩
 have HAB:=zhd hab
 have HATN:=zhd hat
 rw[←hat] at hle
 have hcv:=Go.Joins.run_convert_bytes_const_at (P:=Tryz.prog) w 30 5 #[.int .u8 107] 1 1 w.heap.size rfl Tryz.underlying30 Tryz.underlying5
 have F1:=zhd ((Fr.refl C0 w).alloc (.cells #[.int .u8 107] 5 (1,2)))
 have HK:=zhd (zkr (F:=Dt c) (w:=w) (h.cl _ (Nat.le_refl _)))
 have HSG:=zhd (zkq (HH.out.fr0 F1.out) HM.out HK.out (by decide))
 rw[←hab] at HSG
 clear h hm hu hab hat
 go_enter Tryz.func35,Tryz.ntmps35
 go_wp2_with fail
 refine HSG.out.mono ?_
 rintro e w1 ⟨GA,gm,gc,rfl,H1⟩
 have F2:=zhd (F1.out.trans0 H1.out.1)
 have G1:=zhd H1.out.2
 have HS1:Hid ((w.alloc (.cells #[.int .u8 107] 5 (1,2))).heap.size=w.heap.size+1):=zhd (by simp)
 have HSR:=zhd (zk4 (HH.out.fr0 F2.out) HM.out hk3)
 clear HSG H1 F1 HK hcv
 go_wp2_with fail
 refine HSR.out.mono ?_
 rintro e w2 ⟨RA,rc,rfl,H2⟩
 have F12:=zhd H2.out.1
 have F3:=zhd (F2.out.trans0 H2.out.1)
 have PR:=zhd H2.out.2.2
 have hcv2:=Go.Joins.run_convert_bytes_const_at (P:=Tryz.prog) w2 30 5 #[.int .u8 107] 1 1 w2.heap.size rfl Tryz.underlying30 Tryz.underlying5
 have F23:=zhd ((Fr.refl C0 w2).alloc (.cells #[.int .u8 107] 5 (1,2)))
 have HAT:=zhd (zin (HU.out.fr0 (F3.out.trans0 F23.out)) (zkr (F:=fun _=>True) (w:=w2) trivial))
 rw[←HAB.out,←HATN.out] at HAT
 rw[←HAB.out,←HATN.out] at HGA
 clear HSR H2 F2 HAB HATN
 go_wp2_with fail
 refine HAT.out.mono ?_
 rintro e w4 ⟨rfl,f4⟩
 have F24:=zhd (F23.out.trans0 f4)
 have F4:=zhd (F3.out.trans0 F24.out)
 have HSM:Hid (∀w_,Fr C0 w4 w_→Calls Tryz.prog 22 #[.slice RA L.length rc,.slice A L.length ca] w_ fun e w'=>e=.returned (.bool true)∧Fr C0 w_ w'):=zhd (fun w_ hf=>by
  have:=zf0 (PR.out.fr0 (F24.out.trans0 hf)) (HU.out.fr0 (F4.out.trans0 hf))
  rwa [decide_eq_true rfl] at this)
 clear HAT hcv2 f4 F23
 go_upto_region 4 with fail
 go_cut [64] (fun s wx=>s=.bool false∧Hid (Fr C0 w4 wx))
 case first=>
  cases ab with
  | false =>
    refine z1r (Fr C0 w4) [] (by kernel_rfl) ?_
    have hSw0:(Fr C0 w4) _:=(Fr.refl C0 w4).drew
    refine tk 0 hSw0 ?_
    refine tk 1 hSw0 ?_
    refine tk 2 hSw0 ?_
    refine tk 3 hSw0 ?_
    refine tk 4 hSw0 ?_
    refine tk 5 hSw0 ?_
    refine tk 6 hSw0 ?_
    refine tk 7 hSw0 ?_
    refine tk 8 hSw0 ?_
    refine tk 9 hSw0 ?_
    refine tk 10 hSw0 ?_
    refine tk 11 hSw0 ?_
    refine tk 12 hSw0 ?_
    refine tk 13 hSw0 ?_
    refine tks 14 rfl hSw0 ?_
    try simp only[Act.put,zs1,zs2,zs3]
    refine tks 15 rfl hSw0 ?_
    try simp only[Act.put,zs1,zs2,zs3]
    refine tks 16 rfl hSw0 ?_
    try simp only[Act.put,zs1,zs2,zs3]
    refine tks 17 rfl hSw0 ?_
    try simp only[Act.put,zs1,zs2,zs3]
    refine tks 18 rfl hSw0 ?_
    try simp only[Act.put,zs1,zs2,zs3]
    refine tks 19 rfl hSw0 ?_
    try simp only[Act.put,zs1,zs2,zs3]
    refine tks 20 rfl hSw0 ?_
    try simp only[Act.put,zs1,zs2,zs3]
    refine tks 21 rfl hSw0 ?_
    try simp only[Act.put,zs1,zs2,zs3]
    refine tks 22 rfl hSw0 ?_
    try simp only[Act.put,zs1,zs2,zs3]
    refine tk 23 hSw0 ?_
    refine tk 24 hSw0 ?_
    refine tk 25 hSw0 ?_
    refine tk 26 hSw0 ?_
    refine tk 27 hSw0 ?_
    refine one_ 28 rfl (fun K hK=>?_)
    go_simp
    refine(HSM.out _ (Fr.refl C0 w4).drew).mono ?_
    rintro e w5 ⟨rfl,f5⟩
    have F5:=zhd ((Fr.refl C0 w4).drew.trans0 f5)
    simp only[]
    refine hK.out _ _ ?kS1 (fun hSw1=>?kR1)
    case kS1=>exact F5.out
    clear hK K
    try simp only[Act.put,zs1,zs2,zs3]
    refine tk 29 hSw1 ?_
    refine tk 30 hSw1 ?_
    refine z1q (by kernel_rfl) ?_ _
    go_wp2_with fail
    go_meet
    case rel=>exact⟨rfl,F5⟩
  | true =>
    obtain⟨hlt,hgv⟩:=HGA.out.1 rfl
    have hb:=(G1.out _ hgv).fr0 (F12.out.trans0 F24.out)
    obtain⟨ga,oa,kva,vva,rfl,a0,a1,a2,a3,a4⟩:=(HU.out.fr0 F4.out).at_ at_ hlt
    obtain⟨x1,y1,sa3,sb3,E1⟩:=str2 hb a4
    obtain⟨_,_,e9,-⟩:=hb.form
    injection e9 with e91 e92 e93
    subst e91 e92 e93
    obtain⟨_,_,rfl,-⟩:=a4.form
    have e1:=E1.out
    rw[decide_eq_true rfl] at e1
    have hlt1:(at_:Int)<(L.length:Int):=by omega
    clear a3 a4 hb hgv E1
    refine z1r (Fr C0 w4) [] (by kernel_rfl) ?_
    have hSw0:(Fr C0 w4) _:=(Fr.refl C0 w4).drew
    refine tk 0 hSw0 ?_
    refine tk 1 hSw0 ?_
    refine tk 2 hSw0 ?_
    refine tk 3 hSw0 ?_
    refine tk 4 hSw0 ?_
    refine tk 5 hSw0 ?_
    refine tk 6 hSw0 ?_
    refine tk 7 hSw0 ?_
    refine tk 8 hSw0 ?_
    refine tk 9 hSw0 ?_
    refine tk 10 hSw0 ?_
    refine tk 11 hSw0 ?_
    refine tk 12 hSw0 ?_
    refine tk 13 hSw0 ?_
    refine tk 14 hSw0 ?_
    refine tk 15 hSw0 ?_ (hy:=by intro w_ hS_;have k3:=sa3.out _ hS_;have l3:=sb3.out _ hS_;first|(go_simp;done)|(go_simp;with_reducible rfl))
    refine tk 16 hSw0 ?_
    refine tk 17 hSw0 ?_
    refine tk 18 hSw0 ?_
    refine tk 19 hSw0 ?_
    refine tk 20 hSw0 ?_ (hy:=by intro w_ hS_;have c0:=hS_.cell0 a0;have c1:=hS_.cell0 a1;have c2:=hS_.cell0 a2;first|(go_simp;done)|(go_simp;with_reducible rfl))
    refine tk 21 hSw0 ?_ (hy:=by intro w_ hS_;have k3:=sa3.out _ hS_;have l3:=sb3.out _ hS_;first|(go_simp;done)|(go_simp;with_reducible rfl))
    refine tk 22 hSw0 ?_
    refine tk 23 hSw0 ?_
    refine tk 24 hSw0 ?_
    refine tk 25 hSw0 ?_
    refine tk 26 hSw0 ?_
    refine tk 27 hSw0 ?_
    refine one_ 28 rfl (fun K hK=>?_)
    go_simp
    refine(HSM.out _ (Fr.refl C0 w4).drew).mono ?_
    rintro e w5 ⟨rfl,f5⟩
    have F5:=zhd ((Fr.refl C0 w4).drew.trans0 f5)
    simp only[]
    refine hK.out _ _ ?kS2 (fun hSw1=>?kR2)
    case kS2=>exact F5.out
    clear hK K
    try simp only[Act.put,zs1,zs2,zs3]
    refine tk 29 hSw1 ?_
    refine tk 30 hSw1 ?_
    refine z1q (by kernel_rfl) ?_ _
    go_wp2_with fail
    go_meet
    case rel=>exact⟨rfl,F5⟩
 case rest=>
  obtain⟨rfl,HF⟩:=hcut
  have F5:=zhd (F4.out.trans0 HF.out)
  clear HF HSM F24 F12 F3 F4 HGA G1 PR
  cases cl with
  | false =>
    go_wp2_with fail
    go_ret
    exact⟨rfl,zhd ⟨c,HH.out.fr0 F5.out,⟨F5.out.mono (fun _ _ e=>e.elim),fun _ _=>rfl⟩⟩⟩
  | true =>
    have HC:=zhd (zk5 (HH.out.fr0 F5.out) HM.out)
    go_wp2_with fail
    refine HC.out.mono ?_
    rintro e w6 ⟨rfl,H6⟩
    obtain⟨c6,a6,s6,xx,yy,hb6,hc6⟩:=H6.out
    have A6:=zhd a6
    have S6:=zhd s6
    have HB6:=zhd hb6
    clear HC H6 a6 s6 hb6 hc6
    go_wp2_with fail
    refine(zk7 HB6.out).mono ?_
    rintro e w7 ⟨rfl,f7⟩
    have F7:=zhd f7
    clear f7
    go_wp2_with fail
    refine(zk8 (F7.out.blk HB6.out (fun h=>h))).mono ?_
    rintro e w8 ⟨rfl,f8⟩
    have F8:=zhd (F7.out.trans0 f8)
    clear f8
    go_wp2_with fail
    go_ret
    have hst:StepA 1 c w c6 w8:=⟨((F5.out.mono (C2:=OwnR 1 c) (fun _ _ e=>e.elim)).trans S6.out.fr (fun _ _ e=>e)).trans0 F8.out,fun b hb=>S6.out.ag b (Nat.lt_of_lt_of_le hb F5.out.size)⟩
    refine⟨rfl,zhd ⟨c6,?_,hst⟩⟩
    simpa using A6.out.fr0 F8.out
theorem zkt {a kp tn ct:Int} (h:SAt w0 pn d tp La Ll N k SL c w) (h1:1≤pn) (h2:pn≤4000) :
 Calls Tryz.prog 19 #[.pointer (some ⟨d,0,none⟩),.pointer (some ⟨tp,0,none⟩),.agg #[.int .i64 a,.int .u64 kp,.int .i64 tn,.int .i64 ct]] w fun e w'=>∃tp',e=.returned (.pointer (some ⟨tp',0,none⟩))∧Hid (∃c',SAt w0 pn d tp' Ll Ll N k [] c' w'∧StepA 1 c w c' w'):=by
 obtain⟨Z,g,rfl,rfl,e,i⟩:=h
 refine(zj2 (by omega) g ⟨i.num,i.last,i.pages,i.dk,i.nk,i.af⟩ h1 h2).mono ?_
 rintro e' w' ⟨tp',rfl,H⟩
 obtain⟨c',t,f,ag⟩:=H.out
 exact⟨tp',rfl,zhd ⟨c',t.toS,⟨f,ag⟩⟩⟩
end
section
set_option maxHeartbeats 1000000
variable {w0 w w' : World} {pn d tp N k : Nat} {La Ll : List KV} {c c' : Nat → Nat} {SL : List (Nat × List KV)}
theorem zku {r rn rm st lm km:Nat} (h:TreeIn c r rn rm w tp st lm km nr lr gv ov Z k sn) (hk:4≤k):
 Calls Tryz.prog 29 #[.pointer (some ⟨tp,0,none⟩)] w fun e w'=>e=.returned (.tuple #[.pointer none,.int .i64 2])∧Fr C0 w w':=by
 have HD:=zhd (za5 h.hd)
 have t9:w.cell? ⟨tp,9,none⟩=some ov:=z2g h.blk 9 rfl
 obtain⟨A,cp,rfl,-⟩:=z0o h.orow
 have hkc:(4:Int)≤(k:Int):=by omega
 clear h
 go_enter Tryz.func29,Tryz.ntmps29
 go_wp2_with fail
 refine HD.out.mono ?_
 rintro e w1 ⟨rfl,rfl⟩
 go_wp2
 go_ret2
 exact⟨rfl,(Fr.refl _ _).drew⟩
theorem zkv (h:SAt w0 pn d tp La Ll N k SL c w) (h4:4≤SL.length) :
 Calls Tryz.prog 29 #[.pointer (some ⟨tp,0,none⟩)] w fun e w'=>e=.returned (.tuple #[.pointer none,.int .i64 2])∧Fr C0 w w':=by
 obtain⟨Z,a,rfl,rfl,g,i⟩:=h
 obtain⟨st,lm,km,nr,lr,gv,ov,sn,t⟩:=a.tr
 exact zku t h4
theorem SAt.sps (h:SAt w0 pn d tp La Ll N k SL c w):(SL.map Prod.fst).Nodup:=by
 obtain⟨Z,a,rfl,rfl,rfl,i⟩:=h
 have:=a.tr.bk.kp.sd
 unfold snL
 rw[List.map_map]
 exact this
theorem zkw {p:Nat×List KV} {l:List (Nat×List KV)} (h:((p::l).map Prod.fst).Nodup):(p::l).filter (fun q=>decide (q.1≠p.1))=l:=by
 rw[List.map_cons,List.nodup_cons] at h
 rw[List.filter_cons,if_neg (by simp)]
 refine List.filter_eq_self.2 fun q hq=>?_
 have:q.1≠p.1:=fun e=>h.1 (by rw[←e];exact List.mem_map_of_mem hq)
 simpa using this
theorem StepA.pairs (h:StepA 1 c w c' w') (hv:PairsAt (Dt c) w v L):PairsAt (Dt c') w' v L:=zis ziv hv h.fr h.ag
structure OldsAt (bA bB:Nat) (SL:List (Nat×List KV)) (OA SB:Array Value) (c:Nat→Nat) (w:World):Prop where
 a:w.heap[bA]?=some (.cells OA 56 (0,0))∧c bA=7
 b:w.heap[bB]?=some (.cells SB 58 (0,0))∧c bB=7
 sa:OA.size=4
 sb:SB.size=4
 ats:∀(j:Nat) (p:Nat×List KV),SL[j]?=some p→SB[j]?=some (.pointer (some ⟨p.1,0,none⟩))∧∃A cp,OA[j]?=some (.slice A p.2.length cp)∧PairsAt (Dt c) w (.slice A p.2.length cp) p.2
variable {bA bB : Nat} {OA SB : Array Value}
structure SnW (w0:World) (d tp bA bB:Nat) (La Ll:List KV) (N k:Nat) (SL S2:List (Nat×List KV)) (w:World):Prop where
 ex:∃c OA SB,SAt w0 898 d tp La Ll N k SL c w∧OldsAt bA bB S2 OA SB c w
structure SnR (w0:World) (d tp bA bB:Nat) (La:List KV) (N k:Nat) (SL S2:List (Nat×List KV)) (A:Option Addr) (cp:Nat) (w:World):Prop where
 ex:∃c OA SB,SAt w0 898 d tp La La N k SL c w∧OldsAt bA bB S2 OA SB c w∧PairsAt (Dt c) w (.slice A La.length cp) La
structure SnX (w0:World) (d tp bA bB:Nat) (La Ll:List KV) (N k:Nat) (SL S2:List (Nat×List KV)) (A Ao:Option Addr) (cp co:Nat) (L:List KV) (w:World):Prop where
 ex:∃c OA SB,SAt w0 898 d tp La Ll N k SL c w∧OldsAt bA bB S2 OA SB c w∧PairsAt (Dt c) w (.slice A L.length cp) L∧PairsAt (Dt c) w (.slice Ao L.length co) L
end
end Go.Proofs.YtcmicdcikechkaaGreat
