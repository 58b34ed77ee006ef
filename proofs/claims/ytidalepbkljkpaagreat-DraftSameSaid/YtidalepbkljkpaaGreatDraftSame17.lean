import Derived.Test.YtidalepbkljkpaaGreatDraftSame15
import Derived.Test.YtidalepbkljkpaaGreatDraftSame16
set_option linter.all false
namespace Go.Proofs.YtidalepbkljkpaaGreat
open Go.RowKit Go.H
set_option maxHeartbeats 1000000
set_option maxRecDepth 100000
section
variable {c c' : Nat → Nat} {w w' : World} {sp tp pos : Nat} {Z : TSt}
theorem nilB {F:Nat→Prop} {w:World}:BytesAt F w (.slice none 0 0) []:=⟨none,0,rfl,Nat.le_refl _,by unfold maxLen;omega,fun h=>absurd rfl h⟩
theorem z8z {s:Int} {k v:Bs} {bare:Bool} (h:rightL s k v bare=0):(∃n:Nat,s=(n:Int)∧n<16)∧(bare=false→k≠[])∧k.length≤60∧v.length≤1800:=by
 unfold rightL at h
 split at h
 · cases h
 · rename_i h1
   split at h
   · cases h
   · exact⟨⟨s.toNat,by omega,by omega⟩,fun hb e=>h1 (.inr (.inr ⟨e,hb⟩)),by omega,by omega⟩
theorem z90 {s:Nat} {k:Bs} (hk:k.length≤60):wrong (pk s k) []=0:=by
 unfold wrong pk
 rw[if_neg (by simp),if_neg (by simp;omega)]
theorem z91 {F:Nat→Prop} {kv:Value} {s:Int} {k:Bs} (h:LocAt c w sp tp Z pos) (hk:BytesAt F w kv k) :
 Calls Tryz.prog 29 #[.pointer (some ⟨sp,0,none⟩),.int .i64 s,kv] w fun e w'=>∃A m cp,e=.returned (.tuple #[.slice A m cp,.bool (decide (rightL s k [] false=0) && (getL (pk s.toNat k) (rootL Z.now)).isSome),.int .i64 (rightL s k [] false:Int)])∧Hid (Fr C0 w w'∧(rightL s k [] false=0→∀b,getL (pk s.toNat k) (rootL Z.now)=some b→BytesAt (fun b=>w.heap.size≤b) w' (.slice A m cp) b)):=by
 have HD:=zhd h.dead
 have HR:=zhd (fun (w_:World) (hf:Fr C0 w w_)=>z8n (s:=s) (bare:=false) (hk.fr0 hf) (nilB (F:=fun _=>True) (w:=w_)))
 have HH:=zhd h
 have HK:=zhd hk
 have c0:=h.c0
 obtain⟨A,cp,rfl,-⟩:=hk.form
 obtain⟨r,hr⟩:∃r,r=rightL s k [] false:=⟨_,rfl⟩
 rw[←hr] at HR⊢
 have HRR:=zhd hr
 clear h hk hr
 by_cases h0:r=0
 · obtain⟨⟨n,rfl,hn⟩,-,hk60,-⟩:=z8z (HRR.out.symm.trans h0)
   have HI:=zhd (fun (w_:World) (hf:Fr C0 w w_)=>z8o (s:=n) (by omega) (HK.out.fr0 hf) (by omega))
   have HG:=zhd (fun (w_:World) (v:Value) (hf:Fr C0 w w_) (hv:BytesAt (fun b=>w.heap.size≤b) w_ v (pk n k))=>z7p (HH.out.fr0 hf).t (hv.mono (F':=Dt c) (fun b hb _=>HH.out.cl b hb)) (z90 hk60))
   rw[Int.toNat_natCast]
   subst h0
   clear HRR HK
   go_enter Tryz.func29,Tryz.ntmps29
   go_wp2_with fail
   refine HD.out.mono ?_
   rintro e w1 ⟨rfl,rfl⟩
   go_wp2_with fail
   refine(HR.out _ (Fr.refl C0 w).drew).mono ?_
   rintro e w1 ⟨rfl,rfl⟩
   go_wp2_with fail
   refine z1i (Fr C0 w) [] (by kernel_rfl) ?_
   have hSw0:(Fr C0 w) _:=(Fr.refl C0 w).drew.drew
   refine tk 0 hSw0 ?_
   refine tk 1 hSw0 ?_
   refine tk 2 hSw0 ?_
   refine tk 3 hSw0 ?_ (hy:=by intro w_ hS_;have b0:=hS_.cell0 c0;first|(go_simp;done)|(go_simp;with_reducible rfl))
   refine tk 4 hSw0 ?_
   refine tk 5 hSw0 ?_
   refine one_ 6 rfl (fun K hK=>?_)
   go_simp
   refine(HI.out _ (Fr.refl C0 w).drew.drew).mono ?_
   rintro e w2 ⟨A2,m2,p2,rfl,f2,o2⟩
   have F2:=zhd ((Fr.refl C0 w).drew.drew.trans0 f2)
   have B2:=zhd (o2.mono (F':=fun b=>w.heap.size≤b) (fun b h _=>h))
   clear f2 o2
   simp only[]
   refine hK.out _ _ ?kS1 (fun hSw1=>?kR1)
   case kS1=>exact F2.out
   clear hK K
   try simp only[Act.put,zs1,zs2,zs3]
   refine one_ 7 rfl (fun K hK=>?_)
   go_simp
   refine(HG.out _ _ F2.out B2.out).mono ?_
   rintro e w3 ⟨f3,h3⟩
   have F3:=zhd (F2.out.trans0 f3)
   have hsh:∃A m cp ok,e=.returned (.tuple #[.slice A m cp,.bool ok,.int .i64 0])∧ok=(getL (pk n k) (rootL Z.now)).isSome∧Hid (∀b,getL (pk n k) (rootL Z.now)=some b→BytesAt (fun b=>w.heap.size≤b) w3 (.slice A m cp) b):=by
    rcases h3 with⟨hX,_⟩|h3
    · exact hX.elim
    · cases hg:getL (pk n k) (rootL Z.now) with
      |none=>rw[hg] at h3;exact⟨_,_,_,_,h3,rfl,zhd fun b e=>by cases e⟩
      | some b =>
        rw[hg] at h3
        obtain⟨v,h4,hb⟩:=h3
        obtain⟨A,cp,rfl,-⟩:=hb.form
        exact⟨_,_,_,_,h4,rfl,zhd fun b' e=>by injection e with e;subst e;exact hb.mono fun b hb _=>by have:=F2.out.size;omega⟩
   clear h3 f3
   obtain⟨RA,rm,rc,rok,rfl,hok,HB⟩:=hsh
   have HOK:=zhd hok
   clear hok
   simp only[]
   refine hK.out _ _ ?kS2 (fun hSw2=>?kR2)
   case kS2=>exact F3.out
   clear hK K
   try simp only[Act.put,zs1,zs2,zs3]
   refine tk 8 hSw2 ?_
   refine tk 9 hSw2 ?_
   refine tk 10 hSw2 ?_
   refine tk 11 hSw2 ?_
   refine tk 12 hSw2 ?_
   refine tk 13 hSw2 ?_
   refine z1h (by kernel_rfl) ?_ _
   go_wp2_with fail
   go_ret3
   refine⟨RA,rm,rc,congrArg (fun b=>Ending.returned (.tuple #[.slice RA rm rc,.bool b,.int .i64 0])) ?_,zhd ⟨F3.out,fun _=>HB.out⟩⟩
   rw[HOK.out]
   simp
 · have hr1:((r:Int) != 0)=true:=by simp[bne,z28];omega
   go_enter Tryz.func29,Tryz.ntmps29
   go_wp2_with fail
   refine HD.out.mono ?_
   rintro e w1 ⟨rfl,rfl⟩
   go_wp2_with fail
   refine(HR.out _ (Fr.refl C0 w).drew).mono ?_
   rintro e w1 ⟨rfl,rfl⟩
   go_wp2_with fail
   go_ret3
   refine⟨none,0,0,?_,zhd ⟨(Fr.refl C0 w).drew,fun e=>absurd e h0⟩⟩
   simp[h0]
theorem z92 {w:World} {A:Option Addr} {cp:Nat}:Calls Tryz.prog 62 #[.slice A 0 cp] w fun e w'=>e=.returned (.slice A 0 cp)∧w=w':=by
 go_enter Tryz.func62,Tryz.ntmps62
 go_wp2
 refine wp_loop_rounds 1 ?_;rw[rounds_succ]
 go_wp2
 go_ret
 exact⟨rfl,rfl⟩
theorem z93 {F G:Nat→Prop} {lov hiv:Value} {s n:Nat} {lo hi:Bs} (h:LocAt c w sp tp Z pos) (hem:rootL Z.now=[]) (hlo:BytesAt F w lov lo) (hhi:BytesAt G w hiv hi) (hs:s<16) (hl1:lo.length≤60) (hl2:hi.length≤60) (hn:n≤9223372036854775807) :
 Calls Tryz.prog 39 #[.pointer (some ⟨sp,0,none⟩),.int .i64 (s:Int),lov,hiv,.int .i64 (n:Int)] w fun e w'=>∃A cp,e=.returned (.tuple #[.slice A 0 cp,.int .i64 0])∧Fr C0 w w':=by
 have rz:∀k:Bs,k.length≤60→rightL (s:Int) k [] true=0:=fun k hk=>by
  unfold rightL
  rw[if_neg (by simp;omega),if_neg (by simp;omega)]
 have HD:=zhd h.dead
 have HR1:=zhd (fun (w_:World) (hf:Fr C0 w w_)=>z8n (s:=(s:Int)) (bare:=true) (hlo.fr0 hf) (nilB (F:=fun _=>True) (w:=w_)))
 have HR2:=zhd (fun (w_:World) (hf:Fr C0 w w_)=>z8n (s:=(s:Int)) (bare:=true) (hhi.fr0 hf) (nilB (F:=fun _=>True) (w:=w_)))
 rw[rz lo hl1] at HR1
 rw[rz hi hl2] at HR2
 have HI1:=zhd (fun (w_:World) (hf:Fr C0 w w_)=>z8o (s:=s) (by omega) (hlo.fr0 hf) (by omega))
 have HI2:=zhd (fun (w_:World) (hf:Fr C0 w w_)=>z8o (s:=s) (by omega) (hhi.fr0 hf) (by omega))
 have HI3:=zhd (fun (w_:World)=>z8o (s:=s+1) (w:=w_) (by omega) (nilB (F:=fun _=>True)) (by simp))
 obtain⟨q,hq1,hq2,hq3,hq4⟩:=z6u h.cl 1 2
 have HTR:=zhd (fun (w_:World) (u v:Value) (a b:Bs) (hf:Fr C0 w w_) (hu:BytesAt (fun b=>w.heap.size≤b) w_ u a) (hv:BytesAt (fun b=>w.heap.size≤b) w_ v b) (h1:a.length≤64) (h2:b.length≤64)=>z7q hq2 hq3 hq4 hq1 hn (h.fr0 hf).t (hu.mono (F':=Dt c) (fun b hb _=>h.cl b hb)) (hv.mono (F':=Dt c) (fun b hb _=>h.cl b hb)) h1 h2)
 have c0:=h.c0
 have hn0:¬(n:Int)<0:=by omega
 have hws:IntKind.i64.wrap ((s:Int)+1)=((s+1:Nat):Int):=by rw[z0p _ (by omega) (by omega)];omega
 have hpk:∀(t:Nat) (k:Bs),k.length≤60→(pk t k).length≤64:=fun t k hk=>by unfold pk;rw[List.length_cons];omega
 have HPK1:=zhd (hpk s lo hl1)
 have HPK2:=zhd (hpk s hi hl2)
 have HPK3:=zhd (hpk (s+1) [] (by simp))
 have HEM:=zhd hem
 obtain⟨LA,lc,rfl,-⟩:=hlo.form
 obtain⟨HA,hc,rfl,-⟩:=hhi.form
 have F0:=zhd ((Fr.refl C0 w).alloc (.cells #[.slice LA lo.length lc,.slice HA hi.length hc] 40)).drew
 have k0:(w.alloc (.cells #[.slice LA lo.length lc,.slice HA hi.length hc] 40)).drew.cell? ⟨w.heap.size,0,none⟩=some (.slice LA lo.length lc):=z1u (w:=(w.alloc (.cells #[.slice LA lo.length lc,.slice HA hi.length hc] 40)).drew) (heap_alloc_new w _) 0 rfl
 have k1:(w.alloc (.cells #[.slice LA lo.length lc,.slice HA hi.length hc] 40)).drew.cell? ⟨w.heap.size,1,none⟩=some (.slice HA hi.length hc):=z1u (w:=(w.alloc (.cells #[.slice LA lo.length lc,.slice HA hi.length hc] 40)).drew) (heap_alloc_new w _) 1 rfl
 clear h hem hlo hhi rz hpk hq1 hq2 hq3 hq4
 go_enter Tryz.func39,Tryz.ntmps39
 go_wp2_with fail
 refine HD.out.mono ?_
 rintro e w1 ⟨rfl,rfl⟩
 go_wp2_with fail
 generalize (w.alloc (.cells #[.slice LA lo.length lc,.slice HA hi.length hc] 40)).drew=w1 at *
 refine wp_loop_rounds 3 ?_;rw[rounds_succ]
 go_wp2_with fail
 refine(HR1.out _ F0.out).mono ?_
 rintro e w2 ⟨rfl,rfl⟩
 go_wp2_with fail
 rw[rounds_succ]
 go_wp2_with fail
 refine(HR2.out _ F0.out).mono ?_
 rintro e w2 ⟨rfl,rfl⟩
 go_wp2_with fail
 rw[rounds_succ]
 go_wp2_with fail
 refine(HI2.out _ F0.out).mono ?_
 rintro e w5 ⟨A5,m5,p5,rfl,f5,b5⟩
 have F5:=zhd (F0.out.trans0 f5)
 have B5:=zhd (b5.mono (F':=fun b=>w.heap.size≤b) (fun b h _=>by have:=F0.out.size;omega))
 clear f5 b5 k0 k1
 by_cases hh:hi=[]
 · subst hh;go_wp2_with fail;refine(HI3.out _).mono ?_;rintro e w5 ⟨A5,m5,p5,rfl,f5,b5⟩;have B5:=zhd (b5.mono (F':=fun b=>w.heap.size≤b) (fun b h _=>by have:=F5.out.size;omega));have F5:=zhd (F5.out.trans0 f5);have L5:=HPK3;clear f5 b5
   go_wp2_with fail
   refine z1i (Fr C0 w) [] (by kernel_rfl) ?_
   have hSw0:(Fr C0 w) _:=F5.out.drew
   refine tk 0 hSw0 ?_
   refine tk 1 hSw0 ?_
   refine tk 2 hSw0 ?_
   refine tk 3 hSw0 ?_ (hy:=by intro w_ hS_;have b0:=hS_.cell0 c0;first|(go_simp;done)|(go_simp;with_reducible rfl))
   refine tk 4 hSw0 ?_
   refine tk 5 hSw0 ?_
   refine tk 7 hSw0 ?_
   refine tk 8 hSw0 ?_
   refine one_ 6 rfl (fun K hK=>?_)
   go_simp
   refine(HI1.out _ F5.out.drew).mono ?_
   rintro e w6 ⟨A6,m6,p6,rfl,f6,b6⟩
   have F56:=zhd ((Fr.refl C0 w5).drew.trans0 f6)
   have F6:=zhd (F5.out.trans0 F56.out)
   have B6:=zhd (b6.mono (F':=fun b=>w.heap.size≤b) (fun b h _=>by have:=F5.out.drew.size;omega))
   have B56:=zhd (B5.out.fr0 F56.out)
   clear f6 b6
   simp only[]
   refine hK.out _ _ ?kS3 (fun hSw1=>?kR3)
   case kS3=>exact F6.out
   clear hK K
   try simp only[Act.put,zs1,zs2,zs3]
   refine one_ 9 rfl (fun K hK=>?_)
   go_simp
   refine(HTR.out _ _ _ _ _ F6.out B6.out B56.out HPK1.out L5.out).mono ?_
   rintro e w7 ⟨f7,v7,c7,rfl,-,-,o7⟩
   rw[HEM.out] at o7
   have F7:=zhd (F6.out.trans0 f7)
   obtain⟨A7,p7,hv7,-⟩:=o7.form
   rw[show ∀a b:Bs,(rangeL a b []).take n=[] from fun a b=>by simp[rangeL],List.length_nil] at hv7
   subst hv7
   clear f7 o7
   simp only[]
   refine hK.out _ _ ?kS4 (fun hSw2=>?kR4)
   case kS4=>exact F7.out
   clear hK K
   try simp only[Act.put,zs1,zs2,zs3]
   refine tk 10 hSw2 ?_
   refine tk 11 hSw2 ?_
   refine tk 12 hSw2 ?_
   refine tk 13 hSw2 ?_
   refine tk 14 hSw2 ?_
   refine z1h (by kernel_rfl) ?_ _
   go_wp2_with fail
   refine z92.mono ?_
   rintro e w8 ⟨rfl,rfl⟩
   go_wp2_with fail
   go_ret2
   exact⟨_,_,rfl,by first|exact F7.out|exact F7.out.drew|exact F7.out.drew.drew⟩
 · have h4:((hi.length:Int) == 0)=false:=beq_false_of_ne (fun e=>hh (List.eq_nil_of_length_eq_zero (by omega)));have L5:=HPK2;clear hh
   go_wp2_with fail
   refine z1i (Fr C0 w) [] (by kernel_rfl) ?_
   have hSw0:(Fr C0 w) _:=F5.out.drew
   refine tk 0 hSw0 ?_
   refine tk 1 hSw0 ?_
   refine tk 2 hSw0 ?_
   refine tk 3 hSw0 ?_ (hy:=by intro w_ hS_;have b0:=hS_.cell0 c0;first|(go_simp;done)|(go_simp;with_reducible rfl))
   refine tk 4 hSw0 ?_
   refine tk 5 hSw0 ?_
   refine tk 7 hSw0 ?_
   refine tk 8 hSw0 ?_
   refine one_ 6 rfl (fun K hK=>?_)
   go_simp
   refine(HI1.out _ F5.out.drew).mono ?_
   rintro e w6 ⟨A6,m6,p6,rfl,f6,b6⟩
   have F56:=zhd ((Fr.refl C0 w5).drew.trans0 f6)
   have F6:=zhd (F5.out.trans0 F56.out)
   have B6:=zhd (b6.mono (F':=fun b=>w.heap.size≤b) (fun b h _=>by have:=F5.out.drew.size;omega))
   have B56:=zhd (B5.out.fr0 F56.out)
   clear f6 b6
   simp only[]
   refine hK.out _ _ ?kS5 (fun hSw1=>?kR5)
   case kS5=>exact F6.out
   clear hK K
   try simp only[Act.put,zs1,zs2,zs3]
   refine one_ 9 rfl (fun K hK=>?_)
   go_simp
   refine(HTR.out _ _ _ _ _ F6.out B6.out B56.out HPK1.out L5.out).mono ?_
   rintro e w7 ⟨f7,v7,c7,rfl,-,-,o7⟩
   rw[HEM.out] at o7
   have F7:=zhd (F6.out.trans0 f7)
   obtain⟨A7,p7,hv7,-⟩:=o7.form
   rw[show ∀a b:Bs,(rangeL a b []).take n=[] from fun a b=>by simp[rangeL],List.length_nil] at hv7
   subst hv7
   clear f7 o7
   simp only[]
   refine hK.out _ _ ?kS6 (fun hSw2=>?kR6)
   case kS6=>exact F7.out
   clear hK K
   try simp only[Act.put,zs1,zs2,zs3]
   refine tk 10 hSw2 ?_
   refine tk 11 hSw2 ?_
   refine tk 12 hSw2 ?_
   refine tk 13 hSw2 ?_
   refine tk 14 hSw2 ?_
   refine z1h (by kernel_rfl) ?_ _
   go_wp2_with fail
   refine z92.mono ?_
   rintro e w8 ⟨rfl,rfl⟩
   go_wp2_with fail
   go_ret2
   exact⟨_,_,rfl,by first|exact F7.out|exact F7.out.drew|exact F7.out.drew.drew⟩
end
section
theorem z94 {A:Option Addr} {n n' cp:Nat}:(Value.slice A n cp).ownBlock=(Value.slice A n' cp).ownBlock:=by cases A<;>rfl
theorem z95 {w:World} {g n cap e m k:Nat} {xs:List Value} (h:w.ownsRow 0 e k (.slice (some ⟨g,0,none⟩) n cap) n xs) (hm:m≤n):w.ownsRow 0 e k (.slice (some ⟨g,0,none⟩) m cap) m (xs.take (m*k)):=by
 have hmk:=Nat.mul_le_mul_right k hm
 refine⟨by rw[List.length_take,h.1];exact Nat.min_eq_left hmk,.inr ?_⟩
 rcases h.2 with⟨e1,_⟩|⟨g',cap',cur,e1,h1,h2,h3,h4,h5,h6⟩
 · cases e1
 · injection e1 with e1 e2 e3
   injection e1 with e1
   injection e1 with e1
   subst e1 e3
   exact⟨g,cap,cur,rfl,h1,h2,by omega,h4,h5,by rw[←h6,List.take_take,Nat.min_eq_left hmk]⟩
theorem z96 {F:Nat→Prop} {w:World}:∀{xs:List Value} {l:List Chg} (m:Nat),ChgCells F w xs l→ChgCells F w (xs.take (m*4)) (l.take m)
 |_,_,0,_=>by simpa using ChgCells.nil
 |_,_,m+1,.nil=>by simpa using ChgCells.nil
 | _, _, m + 1, .cons h1 h2 h3 => by
   rw[show(m+1)*4=m*4+1+1+1+1 by omega]
   exact .cons h1 h2 (z96 m h3)
variable {c c' : Nat → Nat} {w w' : World} {dp sp tp : Nat} {Z : TSt} {lv : Value} {L : List Chg}
theorem z97 (h:DrfAt c w dp sp tp Z lv L):sp≠dp∧¬lv.ownBlock=some dp:=by
 refine⟨fun e=>?_,fun e=>?_⟩
 · have:=h.s.blk
   rw[e,h.blk] at this
   injection this with this
   injection this with h4 h5
   exact absurd h5 (by decide)
 · obtain⟨xs,hov,-⟩:=h.row
   rcases hov.2 with⟨e1,_⟩|⟨g,cap,cur,e1,_,hg,_⟩
   · rw[e1] at e;simp[Value.ownBlock] at e
   · rw[e1] at e
     simp[Value.ownBlock] at e
     subst e
     rw[h.blk] at hg
     injection hg with hg
     injection hg with h4 h5
     exact absurd h5 (by decide)
theorem z98 {A:Option Addr} {cp m:Nat} (h:DrfAt c w dp sp tp Z (.slice A L.length cp) L) (hm:m≤L.length) :
 Fr (fun b=>c b=7) w (w.setCell ⟨dp,1,none⟩ (.slice A m cp))∧DrfAt c (w.setCell ⟨dp,1,none⟩ (.slice A m cp)) dp sp tp Z (.slice A m cp) (L.take m):=by
 obtain⟨hds,hne⟩:=z97 h
 obtain⟨xs,ho,hx⟩:=h.row
 have hdp:=(Array.getElem?_eq_some_iff.1 h.blk).1
 have F:=(Fr.refl (fun b=>b=dp) w).setCell (p:=⟨dp,1,none⟩) (.inr rfl) (.slice A m cp)
 have hlt:(L.take m).length=m:=by rw[List.length_take,Nat.min_eq_left hm]
 refine⟨F.mono (fun b _ e=>by have e2:b=dp:=e;rw[e2];exact h.own),h.s.mv7 F (Ag.refl _ _) (fun b hb=>h.cl b (by simpa [World.setCell] using hb)) (fun b e=>by have e2:b=dp:=e;rw[e2];exact⟨hdp,h.own⟩) (fun e=>hds e),h.em,?_,h.own,⟨xs.take (m*4),?_,?_⟩,fun b e=>h.l7 b (by rw[z94 (n':=L.length)] at e;exact e),fun y hy=>h.ok y (List.mem_of_mem_take hy)⟩
 · have:=z1t (i:=1) h.blk (.slice A m cp)
   simpa using this
 · rw[hlt]
   refine z0l ?_ F (fun b e e2=>hne ?_)
   · rcases ho.2 with⟨e1,e2⟩|⟨g,cap,cur,e1,_⟩
     · injection e1 with e3 e4 e5
       subst e3 e5
       have:m=0:=by omega
       subst this
       simpa using World.ownsRow_nil w 0 57 4
     · injection e1 with e3 e4 e5
       subst e3
       exact z95 ho hm
   · have e3:b=dp:=e2
     rw[←e3]
     rw[z94 (n':=m)]
     exact e
 · refine(z96 m hx).fr F (fun b hb e=>?_)
   have e3:b=dp:=e
   have h1:c b=0:=hb
   rw[e3,h.own] at h1
   omega
theorem z99 {n:Int} (h:DrfAt c w dp sp tp Z lv L) :
 Calls Tryz.prog 16 #[.pointer (some ⟨dp,0,none⟩),.int .i64 n] w fun e w'=>e=.returned (.int .i64 (if n<0∨(L.length:Int)<n then 1 else 0))∧Hid (∃lv',Fr (fun b=>c b=7) w w'∧DrfAt c w' dp sp tp Z lv' (if n<0∨(L.length:Int)<n then L else L.take n.toNat)):=by
 have HD:=zhd h
 have c1:=h.c1
 have z1:=z1s 1 h.blk
 obtain⟨A,cp,rfl,hLc,hcm,hA⟩:=h.form
 unfold maxLen at hcm
 clear h
 by_cases h1:n<0
 · rw[if_pos (.inl h1),if_pos (.inl h1)]
   go_enter Tryz.func16,Tryz.ntmps16
   go_wp2
   go_ret
   exact⟨rfl,zhd (by first|exact⟨_,Fr.refl _ _,HD.out⟩|exact⟨Fr.refl _ _,_,HD.out⟩)⟩
 · by_cases h2:(L.length:Int)<n
   · rw[if_pos (.inr h2),if_pos (.inr h2)]
     go_enter Tryz.func16,Tryz.ntmps16
     go_wp2
     go_ret
     exact⟨rfl,zhd (by first|exact⟨_,Fr.refl _ _,HD.out⟩|exact⟨Fr.refl _ _,_,HD.out⟩)⟩
   · rw[if_neg (by omega),if_neg (by omega)]
     obtain⟨m,rfl⟩:∃m:Nat,n=(m:Int):=⟨n.toNat,by omega⟩
     have hm:m≤L.length:=by omega
     have HB:=zhd (z98 HD.out hm)
     rw[Int.toNat_natCast]
     cases A with
     | none =>
       have h0:L.length=0:=by
        obtain⟨xs,ho,-⟩:=HD.out.row
        rcases ho.2 with⟨e1,e2⟩|⟨g,cap,cur,e1,_⟩
        · exact e2
        · injection e1 with e3 e4 e5;cases e3
       have hcp:cp=0:=by
        obtain⟨xs,ho,-⟩:=HD.out.row
        rcases ho.2 with⟨e1,e2⟩|⟨g,cap,cur,e1,_⟩
        · injection e1
        · injection e1 with e3 e4 e5;cases e3
       subst hcp
       have:m=0:=by omega
       subst this
       go_enter Tryz.func16,Tryz.ntmps16
       go_wp2
       go_ret
       exact⟨rfl,zhd (by first|exact⟨_,HB.out⟩|exact⟨HB.out.1,_,HB.out.2⟩)⟩
     | some a =>
       obtain⟨g,rfl⟩:=hA a rfl
       clear hA
       go_enter Tryz.func16,Tryz.ntmps16
       go_wp2
       go_ret
       exact⟨rfl,zhd (by first|exact⟨_,HB.out⟩|exact⟨HB.out.1,_,HB.out.2⟩)⟩
theorem z9a {F:Nat→Prop} {kv:Value} {s:Int} {k:Bs} (h:DrfAt c w dp sp tp Z lv L) (hk:BytesAt F w kv k) (hL:L.length≤100000) :
 Calls Tryz.prog 47 #[.pointer (some ⟨dp,0,none⟩),.int .i64 s,kv] w fun e w'=>e=.returned (.int .i64 (rightL s k [] false:Int))∧Hid (∃c' lv',Ag w.heap.size c c'∧Fr (fun b=>c b=7) w w'∧DrfAt c' w' dp sp tp Z lv' (if rightL s k [] false=0 then L++[⟨s,k,[],true⟩] else L)):=by
 have HR:=zhd (z8v (s:=s) hk (nilB (F:=fun _=>True) (w:=w)))
 have HD:=zhd h
 have c1:=h.c1
 have z1:=z1s 1 h.blk
 have HCK:=zhd (fun (hn:k.length≤100000) (w_:World) (hf:Fr C0 w w_)=>z8t (hk.fr0 hf) hn)
 obtain⟨A,cp,rfl,hLc,hcm,-⟩:=h.form
 obtain⟨KA,kc,rfl,-⟩:=hk.form
 obtain⟨xs,hov,hx⟩:=h.row
 have HOV:=zhd hov
 have HX:=zhd hx
 obtain⟨r,hr⟩:∃r,r=rightL s k [] false:=⟨_,rfl⟩
 rw[←hr] at HR⊢
 have HRR:=zhd hr
 unfold maxLen at hcm
 clear h hk hov hx hr
 by_cases h0:r=0
 · have hok:okC ⟨s,k,[],true⟩:=HRR.out.symm.trans h0
   have hok2:=z8m hok
   have hkl:k.length≤100000:=by have:=hok2.2.2.2.1;simp only at this;omega
   have HOK:=zhd hok
   have HCK2:=zhd (HCK.out hkl)
   subst h0
   clear hok hok2 HCK HRR
   have hdp:=(Array.getElem?_eq_some_iff.1 HD.out.blk).1
   have hdn:¬(Value.slice A L.length cp).ownBlock=some dp:=(z97 HD.out).2
   go_enter Tryz.func47,Tryz.ntmps47
   go_wp2_with fail
   refine HR.out.mono ?_
   rintro e w1 ⟨rfl,rfl⟩
   go_wp2_with fail
   refine z1i (Fr (fun b=>(Value.slice A L.length cp).ownBlock=some b) w) [14] (by kernel_rfl) ?_
   have hSw0:(Fr (fun b=>(Value.slice A L.length cp).ownBlock=some b) w) _:=(Fr.refl _ w).drew
   refine tk 0 hSw0 ?_
   refine tk 1 hSw0 ?_
   refine tk 2 hSw0 ?_
   refine tk 3 hSw0 ?_
   refine tk 4 hSw0 ?_ (hy:=by intro w_ hS_;have b1:=hS_.cell c1 hdn;first|(go_simp;done)|(go_simp;with_reducible rfl))
   refine tk 5 hSw0 ?_
   refine tk 6 hSw0 ?_
   refine one_ 7 rfl (fun K hK=>?_)
   go_simp
   refine(HCK2.out _ (Fr.refl C0 w).drew).mono ?_
   rintro e w2 ⟨v2,rfl,f2,o2⟩
   have F2:=zhd ((Fr.refl C0 w).drew.trans0 f2)
   have B2:=zhd (o2.mono (F':=fun b=>w.heap.size≤b) (fun b h _=>h))
   obtain⟨A2,p2,rfl,-⟩:=o2.form
   clear f2 o2
   simp only[]
   refine hK.out _ _ ?kS1 (fun hSw1=>?kR1)
   case kS1=>exact F2.out.mono (fun _ _ e=>e.elim)
   clear hK K
   try simp only[Act.put,zs1,zs2,zs3]
   refine tk 8 hSw1 ?_
   refine tk 9 hSw1 ?_
   refine one_ 10 rfl (fun K hK=>?_)
   go_simp
   refine hK.out _ _ ?kS2 (fun hSw2=>?kR2)
   case kS2=>exact(F2.out.alloc _).mono (fun _ _ e=>e.elim)
   clear hK K
   try simp only[Act.put,zs1,zs2,zs3]
   refine one_ 11 rfl (fun K hK=>?_)
   refine z0j z8u _ _ rfl (v:=.slice A L.length cp) (xv:=.slice (some ⟨w2.heap.size,0,none⟩) 1 1) rfl rfl (B:=0) (z0l HOV.out (F2.out.alloc _) (fun _ _ h=>h)) (Row.ofBlock (F:=fun _=>True) (heap_alloc_new w2 _) trivial (by unfold maxLen;omega) rfl) (by simp[Value.oneCell']) (by unfold maxLen;omega) (by omega) (Nat.zero_le _) ?_
   intro v5 w5 o5 f5 k5 nil5
   obtain⟨A5,c5,rfl,-⟩:=z0n o5
   have HADD:=zhd (z8w (x:=⟨s,k,[],true⟩) HD.out HX.out HOV.out (F2.out.alloc _) (B2.out.fr0 ((Fr.refl C0 w2).alloc _)) nilB f5 o5 k5 HOK.out)
   have F5:=zhd (((F2.out.alloc (.cells #[.int .i64 s,.slice A2 k.length p2,.slice none 0 0,.bool true] 57)).mono (C2:=fun b=>(Value.slice A L.length cp).ownBlock=some b) (fun _ _ e=>e.elim)).trans f5 (fun _ _ e=>e))
   have e1:=F5.out.cell c1 hdn
   have y1:=(F5.out.frozen hdp hdn).trans z1
   clear o5 f5 k5 nil5
   refine hK.out _ _ ?kS3 (fun hSw3=>?kR3)
   case kS3=>exact F5.out
   clear hK K
   try simp only[Act.put,zs1,zs2,zs3]
   refine tk 12 hSw3 ?_
   refine tk 13 hSw3 ?_
   refine z1f 14 rfl (fun K hK=>?_)
   go_simp
   refine hK.out _ _ ?_;clear hK K
   try simp only[Act.put,zs1,zs2,zs3]
   refine z1h (by kernel_rfl) ?_ _
   go_wp2_with fail
   go_ret
   refine⟨rfl,zhd ?_⟩
   obtain⟨c',a1,a2,a3⟩:=HADD.out
   exact⟨c',a1,a2,_,a3⟩
 · have hr1:((r:Int) != 0)=true:=by simp[bne,z28];omega
   clear HCK
   go_enter Tryz.func47,Tryz.ntmps47
   go_wp2_with fail
   refine HR.out.mono ?_
   rintro e w1 ⟨rfl,rfl⟩
   go_wp2_with fail
   go_ret
   refine⟨rfl,zhd ⟨c,Ag.refl _ _,Fr.refl _ _,.slice A L.length cp,HD.out⟩⟩
def lastC (L:List Chg) (s:Int) (k:Bs):Option Chg:=L.reverse.find? fun x=>decide (x.space=s∧x.key=k)
theorem z9b {s:Int} {k:Bs} (h:∀i,(hi:i<L.length)→¬(L[i].space=s∧L[i].key=k)):lastC L s k=none:=by
 unfold lastC
 rw[List.find?_eq_none]
 intro x hx
 obtain⟨i,hi,rfl⟩:=List.getElem_of_mem (List.mem_reverse.1 hx)
 simpa using h i hi
theorem z9c {s:Int} {k:Bs} {m:Nat} (hm:m<L.length) (hs:L[m].space=s∧L[m].key=k) (h:∀i,m<i→(hi:i<L.length)→¬(L[i].space=s∧L[i].key=k)):lastC L s k=some L[m]:=by
 have e:L=L.take m++L[m]::L.drop (m+1):=by rw[List.getElem_cons_drop,List.take_append_drop]
 unfold lastC
 generalize hx:L[m]=x at *
 rw[e,List.reverse_append,List.reverse_cons,List.append_assoc,List.find?_append,List.find?_eq_none.2,Option.none_or]
 · rw[List.singleton_append,List.find?_cons_of_pos (by simpa using hs)]
 · intro y hy
   obtain⟨i,hi,rfl⟩:=List.getElem_of_mem (List.mem_reverse.1 hy)
   rw[List.length_drop] at hi
   rw[List.getElem_drop]
   simpa using h (m+1+i) (by omega) (by omega)
theorem z9d {F G:Nat→Prop} {w:World} {A:Option Addr} {cp:Nat} {L:List Chg} {xs:List Value} (a:Row F w (.slice A L.length cp) L.length 4 xs) (b:ChgCells G w xs L) (i:Nat) (hi:i<L.length):∃g o kv vv,A=some ⟨g,o,none⟩∧w.cell? ⟨g,o+i*4,none⟩=some (.int .i64 L[i].space)∧w.cell? ⟨g,o+i*4+1,none⟩=some kv∧w.cell? ⟨g,o+i*4+2,none⟩=some vv∧w.cell? ⟨g,o+i*4+3,none⟩=some (.bool L[i].gone)∧BytesAt G w kv L[i].key∧BytesAt G w vv L[i].value:=by
 obtain⟨kv,vv,h0,h1,h2,h5,h3,h4⟩:=b.at_ i hi
 obtain⟨g,o,rfl,_,hc⟩:=a.cells h0
 exact⟨g,o,kv,vv,rfl,hc _ _ h0,by rw[show o+i*4+1=o+(i*4+1) by omega];exact hc _ _ h1,by rw[show o+i*4+2=o+(i*4+2) by omega];exact hc _ _ h2,by rw[show o+i*4+3=o+(i*4+3) by omega];exact hc _ _ h5,h3,h4⟩
theorem z9e {F:Nat→Prop} {kv:Value} {s:Int} {k:Bs} (h:DrfAt c w dp sp tp Z lv L) (hk:BytesAt F w kv k) (hL:L.length≤100000) :
 Calls Tryz.prog 82 #[.pointer (some ⟨dp,0,none⟩),.int .i64 s,kv] w fun e w'=>∃x A1 n1 p1 A2 n2 p2,e=.returned (.tuple #[.agg #[.int .i64 x.space,.slice A1 n1 p1,.slice A2 n2 p2,.bool x.gone],.bool (lastC L s k).isSome])∧Hid (Fr C0 w w'∧∀y,lastC L s k=some y→y=x∧BytesAt (Dt c) w' (.slice A2 n2 p2) x.value):=by
 have HD:=zhd h
 have c1:=h.c1
 have HX:=zhd h.chgs
 have HK:=zhd hk
 obtain⟨xs,hov,hxx⟩:=h.row
 have HXX:=zhd (⟨xs,Row.ofOwn hov (F:=fun _=>True) (fun _ _=>trivial),hxx.mono (fun b h1 h2=>⟨h1,h2⟩)⟩:∃xs,Row (fun _=>True) w lv L.length 4 xs∧ChgCells (fun b=>c b=0∧b<w.heap.size) w xs L)
 obtain⟨A,cp,rfl,hLc,hcm,hA⟩:=h.form
 have HA:=zhd hA
 obtain⟨KA,kc,rfl,-⟩:=hk.form
 clear h hk hov hxx hA
 obtain⟨W1,hW1⟩:∃W1,W1=w.alloc (.cells #[.int .i64 0,.slice none 0 0,.slice none 0 0,.bool false] 57):=⟨_,rfl⟩
 have F1:Fr C0 w W1:=by rw[hW1];exact(Fr.refl C0 w).alloc _
 have hbx:W1.heap[w.heap.size]?=some (.cells #[.int .i64 0,.slice none 0 0,.slice none 0 0,.bool false] 57 (0,0)):=by rw[hW1];exact heap_alloc_new w _
 have d1:=F1.cell0 c1
 have FF1:=zhd F1
 have HBX:=zhd hbx
 have z0:=z1s 0 hbx
 have z1:=z1s 1 hbx
 have z2:=z1s 2 hbx
 have z3:=z1s 3 hbx
 clear F1 hbx c1 HX
 rw[hW1] at d1
 have HD1:=zhd d1
 rw[hW1] at z0 z1 z2 z3
 have HW1:=zhd hW1
 clear hW1
 go_enter Tryz.func82,Tryz.ntmps82
 go_wp2_with fail
 rw[←HW1.out]
 clear d1 z0 z1 z2 z3
 have d1:=HD1.out
 rw[←HW1.out] at d1
 clear HD1
 have z0:=z1s 0 HBX.out
 have z1:=z1s 1 HBX.out
 have z2:=z1s 2 HBX.out
 have z3:=z1s 3 HBX.out
 have q0:=z1u HBX.out 0 rfl
 have q1:=z1u HBX.out 1 rfl
 have q2:=z1u HBX.out 2 rfl
 have q3:=z1u HBX.out 3 rfl
 go_loopw [8] (fun i wr=>∃m:Nat,m≤L.length∧i=.int .i64 ((m:Int)-1)∧Hid (∀i,m≤i→(hi:i<L.length)→¬(L[i].space=s∧L[i].key=k))∧W1=wr) (fun i _=>(intOf i+1).toNat)
 case atStart=>exact⟨L.length,Nat.le_refl _,rfl,zhd (fun i h1 h2=>absurd h2 (by omega)),rfl⟩
 case round=>
  obtain⟨m,hm,rfl,hno,rfl⟩:=hrel
  cases m with
  | zero =>
    go_wp2_with fail
    have hl:lastC L s k=none:=z9b (fun i hi=>hno.out i (by omega) hi)
    refine z1v rfl rfl (z1t (i:=3) (z1t (i:=2) (z1t (i:=1) (z1t (i:=0) HBX.out _) _) _) _) Tryz.underlying57 rfl (by kernel_rfl) rfl ?_
    refine⟨⟨0,[],[],false⟩,none,0,0,none,0,0,?_,zhd ⟨((((FF1.out.setCell (p:=⟨w.heap.size,0,none⟩) (.inl (Nat.le_refl _)) _).setCell (p:=⟨w.heap.size,1,none⟩) (.inl (Nat.le_refl _)) _).setCell (p:=⟨w.heap.size,2,none⟩) (.inl (Nat.le_refl _)) _).setCell (p:=⟨w.heap.size,3,none⟩) (.inl (Nat.le_refl _)) _),fun y hy=>?_⟩⟩
    · rw[hl];rfl
    · rw[hl] at hy;cases hy
  | succ j =>
    rw[show(((j+1:Nat):Int)-1)=(j:Int) by omega]
    obtain⟨xs,hxr,hxc⟩:=HXX.out
    obtain⟨g,o,ku,vu,rfl,a0,a1,a2,a3,a4,a5⟩:=z9d (hxr.fr0 FF1.out) (hxc.fr FF1.out (fun _ _ e=>e)) j (by omega)
    clear hxr hxc
    generalize hx:L[j]=x at a0 a1 a2 a3 a4 a5
    have HXJ:=zhd hx
    clear hx
    by_cases hs:x.space=s
    · have hsb:(x.space == s)=true:=beq_iff_eq.2 hs
      have HE:=zhd (z29 a4 (HK.out.fr0 FF1.out))
      obtain⟨A4,p4,rfl,-⟩:=a4.form
      have H5:=zhd a5
      obtain⟨A5,p5,rfl,-⟩:=a5.form
      have HSX:=zhd hs
      clear a4 a5 hs
      go_wp2_with fail
      refine HE.out.mono ?_
      rintro e w2 ⟨rfl,rfl⟩
      go_wp2_with fail
      · rename_i hk
        have hl:lastC L s k=some x:=by
         have:=z9c (L:=L) (s:=s) (k:=k) (m:=j) (by omega) ⟨by rw[HXJ.out];exact HSX.out,by rw[HXJ.out];exact hk⟩ (fun i h1 hi=>hno.out i (by omega) hi)
         rw[HXJ.out] at this
         exact this
        refine z1v rfl rfl (z1t (i:=3) (z1t (i:=2) (z1t (i:=1) (z1t (i:=0) HBX.out _) _) _) _) Tryz.underlying57 rfl (by kernel_rfl) rfl ?_
        refine⟨x,A4,k.length,p4,A5,x.value.length,p5,?_,zhd ⟨((((FF1.out.setCell (p:=⟨w.heap.size,0,none⟩) (.inl (Nat.le_refl _)) _).setCell (p:=⟨w.heap.size,1,none⟩) (.inl (Nat.le_refl _)) _).setCell (p:=⟨w.heap.size,2,none⟩) (.inl (Nat.le_refl _)) _).setCell (p:=⟨w.heap.size,3,none⟩) (.inl (Nat.le_refl _)) _),fun y hy=>?_⟩⟩
        · rw[hl];rfl
        · rw[hl] at hy
          injection hy with hy
          refine⟨hy.symm,(H5.out.fr (((((Fr.refl (fun b=>b=w.heap.size) W1).setCell (p:=⟨w.heap.size,0,none⟩) (.inr rfl) _).setCell (p:=⟨w.heap.size,1,none⟩) (.inr rfl) _).setCell (p:=⟨w.heap.size,2,none⟩) (.inr rfl) _).setCell (p:=⟨w.heap.size,3,none⟩) (.inr rfl) _) (fun b hb e=>?_)).mono (fun b hb _=>hb.1)⟩
          have e2:b=w.heap.size:=e
          have:=hb.2
          omega
      · rename_i hk
        go_roundw
        case rel=>exact⟨j,by omega,rfl,zhd (fun i h1 hi=>by
         by_cases e:i=j
         · subst e
           rw[HXJ.out]
           exact fun h=>hk h.2
         · exact hno.out i (by omega) hi),by first|trivial|rfl⟩
        case measure=>simp[intOf]
    · have hsb:(x.space == s)=false:=beq_false_of_ne hs
      obtain⟨A4,p4,rfl,-⟩:=a4.form
      obtain⟨A5,p5,rfl,-⟩:=a5.form
      have HSX:=zhd hs
      clear a4 a5 hs
      go_wp2_with fail
      go_roundw
      case rel=>exact⟨j,by omega,rfl,zhd (fun i h1 hi=>by
       by_cases e:i=j
       · subst e
         rw[HXJ.out]
         exact fun h=>HSX.out h.1
       · exact hno.out i (by omega) hi),by first|trivial|rfl⟩
      case measure=>simp[intOf]
end
end Go.Proofs.YtidalepbkljkpaaGreat
