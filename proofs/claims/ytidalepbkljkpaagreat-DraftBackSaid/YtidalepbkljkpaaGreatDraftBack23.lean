/- DraftBack returns true for every input, and leaves what came in as it was. No condition. -/
import Derived.Test.YtidalepbkljkpaaGreatDraftBack17
import Derived.Test.YtidalepbkljkpaaGreatDraftBack14
import Derived.Test.YtidalepbkljkpaaGreatDraftBack16
import Derived.Test.YtidalepbkljkpaaGreatDraftBack22
import Derived.Test.YtidalepbkljkpaaGreatDraftBack18
set_option linter.all false
namespace Go.Proofs.YtidalepbkljkpaaGreat
section
open Go.RowKit Go.H
set_option maxHeartbeats 2000000
set_option maxRecDepth 100000
theorem zbs {F:Nat→Prop} {w:World} {A:Option Addr} {cp:Nat} {L:List Chg} (h:ChgsAt F w (.slice A L.length cp) L) (i:Nat) (hi:i<L.length):∃g o kv vv,A=some ⟨g,o,none⟩∧w.cell? ⟨g,o+i*4,none⟩=some (.int .i64 L[i].space)∧w.cell? ⟨g,o+i*4+1,none⟩=some kv∧w.cell? ⟨g,o+i*4+2,none⟩=some vv∧w.cell? ⟨g,o+i*4+3,none⟩=some (.bool L[i].gone)∧BytesAt F w kv L[i].key∧BytesAt F w vv L[i].value:=by
 obtain⟨xs,a,b⟩:=h
 exact z97 a b i hi
theorem zbt {F G:Nat→Prop} {w:World} {u v:Value} {a:List Chg} (ha:ChgsAt F w u a) (hb:ChgsAt G w v a) :
 Calls Tryz.prog 19 #[u,v] w fun e w'=>e=.returned (.bool true)∧Fr C0 w w':=by
 have HA:=zhd ha
 have HB:=zhd hb
 obtain⟨A,ca,rfl,ha1,ha2⟩:=ha.form
 obtain⟨B,cb,rfl,hb1,hb2⟩:=hb.form
 clear ha hb
 unfold maxLen at ha2 hb2
 have hl1:((a.length:Int) != (a.length:Int))=false:=by simp
 go_enter Tryz.func19,Tryz.ntmps19
 go_wp2
 go_loopw [5] (fun i wr=>∃k:Nat,k≤a.length∧i=.int .i64 (k:Int)∧Fr C0 w wr) (fun i _=>a.length-(intOf i).toNat)
 case atStart=>exact⟨0,Nat.zero_le _,rfl,Fr.refl _ _⟩
 case round=>
  obtain⟨k,hk,rfl,hf⟩:=hrel
  have HF:=zhd hf
  clear hf
  by_cases hlt:k<a.length
  · obtain⟨ga,oa,kva,vva,rfl,a0,a1,a2,a5,a3,a4⟩:=zbs (HA.out.fr0 HF.out) k hlt
    obtain⟨gb,ob,kvb,vvb,rfl,b0,b1,b2,b5,b3,b4⟩:=zbs (HB.out.fr0 HF.out) k hlt
    generalize a[k]=x at *
    obtain⟨xs,xk,xv,xg⟩:=x
    simp only at *
    obtain⟨x1,y1,sa3,sb3,E1⟩:=str2 a3 b3
    obtain⟨x2,y2,sa4,sb4,E2⟩:=str2 a4 b4
    obtain⟨_,_,rfl,-⟩:=a3.form
    obtain⟨_,_,rfl,-⟩:=a4.form
    obtain⟨_,_,rfl,-⟩:=b3.form
    obtain⟨_,_,rfl,-⟩:=b4.form
    clear a3 a4 b3 b4
    go_wp2_with fail
    have e1:=E1.out.trans (by simp:_=true)
    have e2:=E2.out.trans (by simp:_=true)
    refine z1i (Fr C0 wr) [] (by kernel_rfl) ?_
    have hSw0:(Fr C0 wr) _:=(Fr.refl C0 wr).drew
    refine tk 0 hSw0 ?_
    refine tk 1 hSw0 ?_
    refine tk 2 hSw0 ?_
    refine tk 3 hSw0 ?_
    refine tk 4 hSw0 ?_
    refine tk 5 hSw0 ?_ (hy:=by intro w_ hS_;have c0:=hS_.cell0 a0;have c1:=hS_.cell0 a1;have c2:=hS_.cell0 a2;have c5:=hS_.cell0 a5;have d0:=hS_.cell0 b0;have d1:=hS_.cell0 b1;have d2:=hS_.cell0 b2;have d5:=hS_.cell0 b5;first|(go_simp;done)|(go_simp;with_reducible rfl))
    refine tk 6 hSw0 ?_
    refine tk 7 hSw0 ?_
    refine tk 8 hSw0 ?_
    refine tk 9 hSw0 ?_
    refine tk 10 hSw0 ?_
    refine tk 11 hSw0 ?_ (hy:=by intro w_ hS_;have c0:=hS_.cell0 a0;have c1:=hS_.cell0 a1;have c2:=hS_.cell0 a2;have c5:=hS_.cell0 a5;have d0:=hS_.cell0 b0;have d1:=hS_.cell0 b1;have d2:=hS_.cell0 b2;have d5:=hS_.cell0 b5;first|(go_simp;done)|(go_simp;with_reducible rfl))
    refine tk 12 hSw0 ?_
    refine tk 13 hSw0 ?_
    refine tk 14 hSw0 ?_
    refine tk 15 hSw0 ?_
    refine tk 16 hSw0 ?_
    refine tk 17 hSw0 ?_
    refine tk 18 hSw0 ?_ (hy:=by intro w_ hS_;have c0:=hS_.cell0 a0;have c1:=hS_.cell0 a1;have c2:=hS_.cell0 a2;have c5:=hS_.cell0 a5;have d0:=hS_.cell0 b0;have d1:=hS_.cell0 b1;have d2:=hS_.cell0 b2;have d5:=hS_.cell0 b5;first|(go_simp;done)|(go_simp;with_reducible rfl))
    refine tk 19 hSw0 ?_
    refine tk 20 hSw0 ?_
    refine tk 21 hSw0 ?_
    refine tk 22 hSw0 ?_
    refine tk 23 hSw0 ?_ (hy:=by intro w_ hS_;have c0:=hS_.cell0 a0;have c1:=hS_.cell0 a1;have c2:=hS_.cell0 a2;have c5:=hS_.cell0 a5;have d0:=hS_.cell0 b0;have d1:=hS_.cell0 b1;have d2:=hS_.cell0 b2;have d5:=hS_.cell0 b5;first|(go_simp;done)|(go_simp;with_reducible rfl))
    refine tk 24 hSw0 ?_
    refine tk 25 hSw0 ?_
    refine tk 26 hSw0 ?_
    refine tk 27 hSw0 ?_
    refine tk 28 hSw0 ?_
    refine tk 29 hSw0 ?_
    refine tk 30 hSw0 ?_
    refine tk 31 hSw0 ?_
    refine tk 32 hSw0 ?_ (hy:=by intro w_ hS_;have c0:=hS_.cell0 a0;have c1:=hS_.cell0 a1;have c2:=hS_.cell0 a2;have c5:=hS_.cell0 a5;have d0:=hS_.cell0 b0;have d1:=hS_.cell0 b1;have d2:=hS_.cell0 b2;have d5:=hS_.cell0 b5;first|(go_simp;done)|(go_simp;with_reducible rfl))
    refine tk 33 hSw0 ?_ (hy:=by intro w_ hS_;have k3:=sa3.out _ hS_;have k4:=sa4.out _ hS_;have l3:=sb3.out _ hS_;have l4:=sb4.out _ hS_;first|(go_simp;done)|(go_simp;with_reducible rfl))
    refine tk 34 hSw0 ?_
    refine tk 35 hSw0 ?_
    refine tk 36 hSw0 ?_
    refine tk 37 hSw0 ?_
    refine tk 38 hSw0 ?_
    refine tk 39 hSw0 ?_ (hy:=by intro w_ hS_;have c0:=hS_.cell0 a0;have c1:=hS_.cell0 a1;have c2:=hS_.cell0 a2;have c5:=hS_.cell0 a5;have d0:=hS_.cell0 b0;have d1:=hS_.cell0 b1;have d2:=hS_.cell0 b2;have d5:=hS_.cell0 b5;first|(go_simp;done)|(go_simp;with_reducible rfl))
    refine tk 40 hSw0 ?_ (hy:=by intro w_ hS_;have k3:=sa3.out _ hS_;have k4:=sa4.out _ hS_;have l3:=sb3.out _ hS_;have l4:=sb4.out _ hS_;first|(go_simp;done)|(go_simp;with_reducible rfl))
    refine tk 41 hSw0 ?_
    refine tk 42 hSw0 ?_
    refine tk 43 hSw0 ?_
    refine tk 44 hSw0 ?_
    refine tk 45 hSw0 ?_
    refine tk 46 hSw0 ?_
    refine tk 47 hSw0 ?_
    refine tk 48 hSw0 ?_
    refine tk 49 hSw0 ?_ (hy:=by intro w_ hS_;have c0:=hS_.cell0 a0;have c1:=hS_.cell0 a1;have c2:=hS_.cell0 a2;have c5:=hS_.cell0 a5;have d0:=hS_.cell0 b0;have d1:=hS_.cell0 b1;have d2:=hS_.cell0 b2;have d5:=hS_.cell0 b5;first|(go_simp;done)|(go_simp;with_reducible rfl))
    refine tk 50 hSw0 ?_ (hy:=by intro w_ hS_;have k3:=sa3.out _ hS_;have k4:=sa4.out _ hS_;have l3:=sb3.out _ hS_;have l4:=sb4.out _ hS_;first|(go_simp;done)|(go_simp;with_reducible rfl))
    refine tk 51 hSw0 ?_
    refine tk 52 hSw0 ?_
    refine tk 53 hSw0 ?_
    refine tk 54 hSw0 ?_
    refine tk 55 hSw0 ?_
    refine tk 56 hSw0 ?_ (hy:=by intro w_ hS_;have c0:=hS_.cell0 a0;have c1:=hS_.cell0 a1;have c2:=hS_.cell0 a2;have c5:=hS_.cell0 a5;have d0:=hS_.cell0 b0;have d1:=hS_.cell0 b1;have d2:=hS_.cell0 b2;have d5:=hS_.cell0 b5;first|(go_simp;done)|(go_simp;with_reducible rfl))
    refine tk 57 hSw0 ?_ (hy:=by intro w_ hS_;have k3:=sa3.out _ hS_;have k4:=sa4.out _ hS_;have l3:=sb3.out _ hS_;have l4:=sb4.out _ hS_;first|(go_simp;done)|(go_simp;with_reducible rfl))
    refine tk 58 hSw0 ?_
    refine tk 59 hSw0 ?_
    refine z1h (by kernel_rfl) ?_ _
    go_wp2
    go_roundw
    case rel=>exact⟨k+1,by omega,by go_num,HF.out.drew⟩
    case measure=>simp[intOf];omega
  · obtain rfl:k=a.length:=by omega
    go_wp2
    go_ret
    exact⟨rfl,HF.out⟩
end
section
open Go.RowKit Go.H
set_option maxHeartbeats 1000000
set_option maxRecDepth 100000
theorem OutC.chgs {N:Nat} {w:World} {ov:Value} {M:List Chg} (h:OutC N w ov M):ChgsAt (fun b=>N≤b) w ov M:=by
 obtain⟨ys,a,b⟩:=h
 exact⟨ys,Row.ofOwn a (fun b hb=>(a.lt b hb).1),b.mono (fun b hb _=>hb.1)⟩
theorem zbu {w:World} {v1 v2:Value} {l1 l2:List Act13} (h1:ActsS (fun _=>True) w v1 l1) (h2:ActsS (fun _=>True) w v2 l2) :
 Calls Tryz.prog 3 #[v1,v2] w fun e w'=>e=.returned (.bool true)∧Fr C0 w w':=by
 have HN:=zhd (zbe (w:=w) (c:=fun _=>0) (fun _ _=>rfl))
 have HA1:=zhd (h1.mono (F':=fun b=>b<w.heap.size) (fun b _ h=>h))
 have HA2:=zhd (h2.mono (F':=fun b=>b<w.heap.size) (fun b _ h=>h))
 obtain⟨B1,p1,rfl,-⟩:=h1.form
 obtain⟨B2,p2,rfl,-⟩:=h2.form
 clear h1 h2
 go_enter Tryz.func3,Tryz.ntmps3
 go_wp2_with fail
 refine HN.out.mono ?_
 rintro e w1 ⟨dp,sp,rfl,H1⟩
 obtain⟨f1,tp,Z,c1,ag1,d1⟩:=H1.out
 have F1:=zhd f1
 have A1:=zhd ag1
 have hact:∀(c:Nat→Nat) (w_:World),Ag w1.heap.size c1 c→Fr (fun b=>c1 b=7) w1 w_→∀{v:Value} {l:List Act13},ActsS (fun b=>b<w.heap.size) w v l→ActsS (fun b=>b<w_.heap.size∧c b≠7) w_ v l:=fun c w_ ag f v l h=>by
  have hs:=f1.size
  have hs2:=f.size
  refine((h.fr f1 (fun _ _ e=>e)).fr f (fun b hb e=>?_)).mono (fun b hb _=>⟨by omega,?_⟩)
  · rw[ag1 b hb] at e;cases e
  · rw[ag b (by omega),ag1 b hb];exact fun e=>by cases e
 have HACT:=zhd hact
 have S1:=zhd (Stg7.start d1)
 clear HN H1 f1 ag1 d1 hact
 go_wp2_with fail
 refine(z9g (most:=20) S1.out.d (HACT.out c1 w1 (Ag.refl _ _) (Fr.refl _ _) HA1.out) (by omega) (by simp)).mono ?_
 rintro e w2 ⟨rfl,H2⟩
 obtain⟨c2,lv2,ag2,f2,d2⟩:=H2.out
 rw[List.nil_append] at d2
 have hlen:((l1.take 20).flatMap chg13).length≤20:=by
  have:=z9a (l1.take 20)
  rw[List.length_take] at this
  omega
 generalize (l1.take 20).flatMap chg13=L at *
 have S2:=zhd (S1.out.next ag2 f2 d2)
 clear H2 ag2 f2 d2
 go_wp2_with fail
 refine(z8s S2.out.d).mono ?_
 rintro e w3 ⟨rfl,rfl⟩
 go_wp2_with fail
 refine(zba S2.out.d (by omega)).mono ?_
 rintro e w3 ⟨ov3,rfl,H3⟩
 obtain⟨f3,M3,m3,o3⟩:=H3.out
 have HM3:=zhd m3
 have cl2:=S2.out.d.cl
 have O3:=zhd (o3.pairs.mono (F':=fun b=>c2 b≠7) (fun b hb _=>by rw[cl2 b hb];decide))
 have S3:=zhd (S2.out.fr0 f3)
 obtain⟨A3,p3,rfl⟩:=o3.form
 clear H3 f3 m3 o3 cl2
 go_wp2_with fail
 refine(zbp S3.out.d (by omega)).mono ?_
 rintro e w4 ⟨ov4,rfl,H4⟩
 obtain⟨f4,N4,hp4,hs4,o4⟩:=H4.out
 have N4P:=zhd hp4
 have N4S:=zhd hs4
 have cl3:=S3.out.d.cl
 have O4:=zhd (o4.chgs.mono (F':=fun b=>c2 b≠7) (fun b hb _=>by rw[cl3 b hb];decide))
 have O34:=zhd (O3.out.fr0 f4)
 have S4:=zhd (S3.out.fr0 f4)
 have T4:=zhd (Stg7.start S4.out.d)
 obtain⟨A4,p4,rfl⟩:=o4.form
 clear H4 f4 hp4 hs4 o4 cl3 O3 S3 S2
 go_wp2_with fail
 refine(z9g (most:=20) T4.out.d (HACT.out c2 w4 S4.out.ag S4.out.fr HA2.out) (by omega) (by omega)).mono ?_
 rintro e w5 ⟨rfl,H5⟩
 obtain⟨c5,lv5,ag5,f5,d5⟩:=H5.out
 generalize (l2.take 20).flatMap chg13=L2 at *
 have T5:=zhd (T4.out.next ag5 f5 d5)
 clear H5 ag5 f5 d5
 go_wp2_with fail
 refine(z8s T5.out.d).mono ?_
 rintro e w6 ⟨rfl,rfl⟩
 have hl12:¬((L++L2).length:Int)<(L.length:Int):=by rw[List.length_append];omega
 go_wp2_with fail
 refine(z93 (n:=(L.length:Int)) T5.out.d).mono ?_
 rintro e w6 ⟨he,H6⟩
 rw[if_neg (by rw[List.length_append];omega)] at he
 subst he
 obtain⟨lv6,f6,d6⟩:=H6.out
 rw[if_neg (by rw[List.length_append];omega),Int.toNat_natCast,List.take_left' rfl] at d6
 have T6:=zhd (T5.out.next (Ag.refl _ _) f6 d6)
 clear H6 f6 d6 T5 hl12
 go_wp2_with fail
 refine(z93 (n:=(L.length:Int)+1) T6.out.d).mono ?_
 rintro e w7 ⟨he,H7⟩
 rw[if_pos (by omega)] at he
 subst he
 obtain⟨lv7,f7,d7⟩:=H7.out
 rw[if_pos (by omega)] at d7
 have T7:=zhd (T6.out.next (Ag.refl _ _) f7 d7)
 clear H7 f7 d7 T6
 go_wp2_with fail
 refine(z93 (n:=-1) T7.out.d).mono ?_
 rintro e w8 ⟨he,H8⟩
 rw[if_pos (by omega)] at he
 subst he
 obtain⟨lv8,f8,d8⟩:=H8.out
 rw[if_pos (by omega)] at d8
 have T8:=zhd (T7.out.next (Ag.refl _ _) f8 d8)
 clear H8 f8 d8 T7
 go_wp2_with fail
 refine(zbr w8).mono ?_
 rintro e w9 ⟨rfl,f9⟩
 have T9:=zhd (T8.out.fr0 f9)
 clear f9 T8
 go_wp2_with fail
 refine(zba T9.out.d (by omega)).mono ?_
 rintro e w10 ⟨ov10,rfl,H10⟩
 obtain⟨f10,M10,m10,o10⟩:=H10.out
 have hM:M10=M3:=zb8 (fun s=>.refl _) m10 HM3.out
 subst hM
 have T10:=zhd (T9.out.fr0 f10)
 have HS10:=zhd (z9q o10.pairs (O34.out.fr T10.out.fr (fun b hb e=>hb e)))
 obtain⟨A10,p10,rfl⟩:=o10.form
 clear f10 m10 o10 H10 T9
 go_wp2_with fail
 refine HS10.out.mono ?_
 rintro e w11 ⟨rfl,f11⟩
 have T11:=zhd (T10.out.fr0 f11)
 clear f11 T10 HS10
 go_wp2_with fail
 refine(zbp T11.out.d (by omega)).mono ?_
 rintro e w12 ⟨ov12,rfl,H12⟩
 obtain⟨f12,N12,hp12,hs12,o12⟩:=H12.out
 have hN:N12=N4:=z88 hs12 N4S.out (hp12.trans N4P.out.symm)
 subst hN
 have T12:=zhd (T11.out.fr0 f12)
 have HS12:=zhd (zbt o12.chgs (O4.out.fr T12.out.fr (fun b hb e=>hb e)))
 obtain⟨A12,p12,rfl⟩:=o12.form
 clear f12 hp12 hs12 o12 H12 T11
 go_wp2_with fail
 refine HS12.out.mono ?_
 rintro e w13 ⟨rfl,f13⟩
 have T13:=zhd (T12.out.fr0 f13)
 clear f13 T12 HS12
 go_wp2_with fail
 refine(z8s T13.out.d).mono ?_
 rintro e w14 ⟨rfl,rfl⟩
 go_wp2_with fail
 go_ret
 refine⟨by simp,?_⟩
 have h1:=S4.out.new F1.out A1.out (fun _ e=>by cases e)
 exact h1.trans T13.out.fr (fun b hb e=>by
  have h2:=S4.out.ag b (Nat.lt_of_lt_of_le hb F1.out.size)
  rw[h2,A1.out b hb] at e
  cases e)
end
section
open Go.RowKit Go.H Go.ChangeShapes Go.WideShapes Go.ChangeAt Go.Deep
set_option maxRecDepth 100000 in
theorem zbv (os:Os) (started:os.Started) (H:Type) (enc:TypeId×Value→H) :
 ReturnsInHanded {} Tryz.checked os 3 .any (Rows.draftBackSpec.pre6 enc Tryz.prog Tryz.f3 Rows.draftBackRow.domain false) (Rows.draftBackSpec.post enc Tryz.prog Tryz.f3 false true false false):=by
 refine returnsInHanded_of_change (C:=Tryz.checked) z7u started (by kernel_rfl) Tryz.func3
  (ChangeSpec.witness6 (enc:=enc) (C:=Tryz.checked) false ⟨#[],#[.slice none 0 0,.slice none 0 0],[]⟩ 8 (by kernel_rfl) (by kernel_rfl) (by kernel_rfl) (by kernel_rfl)) ?_
 intro W base args ds gs before hval0 hW hcnd _
 have hval:∀(j:Nat) t v,(Tryz.f3).params[j]?=some t→args[j]?=some v→Value.okWide Tryz.prog W .any base t v:=hval0
 have hW':=hW
 obtain⟨p,q,hA0,hV,rfl,hfz,hnd⟩:=hW
 have hA:DataW.TrodAll enc Tryz.prog W 0 (fun _=>true) true (Tryz.f3).params.toList args.toList ds p:=hA0
 rw[Tryz.params3] at hA hval
 obtain⟨v0,vs0,d0,ds0,p0,q0,hargs,rfl,rfl,h0,r0⟩:=trodAll_cons hA
 obtain⟨v1,vs1,d1,ds1,p1,q1,hargs1,rfl,rfl,h1,r1⟩:=trodAll_cons r0
 obtain⟨rfl,rfl,rfl⟩:=trodAll_nil r1
 obtain rfl:args=#[v0,v1]:=by cases args;simp_all
 obtain⟨rfl,rfl⟩:=trodVars_none hV
 obtain⟨acts,hk⟩:=z9p (hval 0 22 v0 rfl rfl) h0
 obtain⟨more,hk1⟩:=z9p (hval 1 22 v1 rfl rfl) h1
 refine(zbu hk hk1).mono fun e W' ⟨he,hf⟩=>?_
 subst he
 exact⟨_,rfl,z01 z7v (by decide +kernel) rfl rfl Tryz.underlying4 hW' rfl hf⟩
theorem zbw:Rows.draftBackRow.holds Tryz.pinned (OpenSpec.ofChange Rows.draftBackSpec):=
 OpenClaim.holds_of_wide 3 Tryz.f3 rfl rfl rfl rfl rfl rfl rfl ⟨rfl,rfl,rfl,rfl,rfl⟩ rfl rfl rfl rfl rfl (by kernel_rfl) Tryz.func3 (by kernel_rfl)
  (of_decide_eq_true (by kernel_rfl)) (by unfold Func.isWrapper;first|(rw[if_pos (by decide +kernel)];kernel_rfl)|(rw[if_neg (by decide +kernel)];exact⟨rfl,rfl⟩))
  (fun os started H enc _=>zbv os started H enc)
theorem draft_back:Rows.DraftBackSaid:=zbw
end
end Go.Proofs.YtidalepbkljkpaaGreat
