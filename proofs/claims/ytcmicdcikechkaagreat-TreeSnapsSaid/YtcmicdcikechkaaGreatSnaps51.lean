/- TreeSnaps returns true for every input, and leaves what came in as it was. No condition. -/
import Derived.Test.YtcmicdcikechkaaGreatSnaps50
import Derived.Test.YtcmicdcikechkaaGreatSnaps37
import Derived.Deep.Grids
set_option linter.all false
namespace Go.Proofs.YtcmicdcikechkaaGreat
section
open Go.RowKit Go.H
set_option maxHeartbeats 4000000
set_option maxRecDepth 100000
def BoolsIn (w:World) (v:Value) (gs:List Bool):Prop:=∃A c,v=.slice A gs.length c∧gs.length≤c∧c≤maxLen∧∀(i:Nat) (h:i<gs.length),∃g o,A=some ⟨g,o,none⟩∧w.cell? ⟨g,o+i,none⟩=some (.bool gs[i])
theorem zj9 {w:World} {kv gv:Value} {ks:List Bs} {gs:List Bool} (hk:KeysAt w kv ks) (hg:BoolsIn w gv gs) :
 Calls Tryz.prog 6 #[kv,gv] w fun e w'=>e=.returned (.bool true)∧Fr C0 w w':=by
 have HOP:=zhd (zi6 (w0:=w) (w:=w) (c:=fun _=>0) (r:=1) (n:=900) (by omega) (by omega) (by omega) (Fr.refl _ _) (fun _ _=>rfl) (fun _ _=>rfl))
 obtain⟨KA,kc,rfl,hk1,hk2,hk3⟩:=hk
 obtain⟨GA,gc,rfl,hg1,hg2,hg3⟩:=hg
 have HK3:=zhd hk3
 have HG3:=zhd hg3
 unfold maxLen at hk2 hg2
 clear hk3 hg3
 go_enter Tryz.func6,Tryz.ntmps6
 go_wp2_with fail
 refine HOP.out.mono ?_
 rintro e w1 ⟨tp,rfl,H1⟩
 obtain⟨f1,c1,ag1,a1⟩:=H1.out
 have P1:=zhd (ziz a1)
 have hs1:w.heap.size≤w1.heap.size:=f1.size
 clear f1 ag1 a1 H1 HOP
 go_upto_region 6 with fail
 generalize (w1.alloc (.cells #[.slice none 0 0,.slice none 0 0,.slice none 0 0,.slice none 0 0] 56)).alloc (.cells #[.pointer none,.pointer none,.pointer none,.pointer none] 58)=w2 at *
 obtain⟨d,hd⟩:∃d,d=w.heap.size+1:=⟨_,rfl⟩
 rw[←hd] at P1
 obtain⟨bB,hbB⟩:∃b,b=w1.heap.size+1:=⟨_,rfl⟩
 rw[←hbB] at P1⊢
 obtain⟨bA,hbA⟩:∃b,b=w1.heap.size:=⟨_,rfl⟩
 rw[←hbA] at P1⊢
 have hAB:bA≠bB:=by omega
 clear hd hbA hbB
 go_wp2
 go_loopw [9,10,11,12,13,14,15] (fun s _ _ _ _ _ _ wr=>∃n:Nat,n≤4∧s=.int .i64 (n:Int)∧Hid (∃La Ll N SL,SnW w d tp bA bB La Ll N (12*n) SL SL wr∧SL.length=n)) (fun s _ _ _ _ _ _ _=>4-(intOf s).toNat)
 case atStart=>exact⟨0,by omega,rfl,zhd ⟨[],[],0,[],P1.out,rfl⟩⟩
 case round=>
  obtain⟨n,hn,rfl,HP⟩:=hrel
  clear P1
  by_cases hlt:n<4
  · obtain⟨La,Ll,N,SL,hP,hSL⟩:=HP.out
    have HPP:=zhd hP
    have HSL:=zhd hSL
    have h1:(n:Int)<4:=by omega
    clear HP hP hSL
    go_wp2
    go_loopw [10,11] (fun u _ wi=>∃i:Nat,i≤43∧u=.int .i64 (i:Int)∧Hid (∃j La,i=n+4*j∧SnW w d tp bA bB La Ll N (12*n+j) SL SL wi)) (fun i _ _=>44-(intOf i).toNat)
    case atStart=>exact⟨n,by omega,rfl,zhd ⟨0,La,by omega,HPP.out⟩⟩
    case round=>
     obtain⟨i,hi43,rfl,HQ⟩:=hrel
     clear HPP
     by_cases hlt2:i<ks.length∧i<40
     · obtain⟨hl1,hl2⟩:=hlt2
       obtain⟨j,La,hij,hQ⟩:=HQ.out
       have hj9:j≤9:=by omega
       have HIJ:=zhd hij
       have HPQ:=zhd hQ
       obtain⟨g,o,kvk,hKA,hcell,hb⟩:=HK3.out i hl1
       subst hKA
       have hcw:=hQ.fr.cell0 hcell
       obtain⟨A1,n1,rfl,hn1,hn2⟩:=hb.form
       unfold maxLen at hn2
       have h2:(i:Int)<(ks.length:Int):=by omega
       have h3:(i:Int)<40:=by omega
       obtain⟨m,hm64,hml,hmm⟩:∃m:Nat,m≤64∧m≤ks[i].length∧(if (64:Int)<(ks[i].length:Int) then(64:Int) else(ks[i].length:Int))=(m:Int):=⟨min ks[i].length 64,by omega,by omega,by split<;>omega⟩
       have hmm3:min ((ks[i].length:Nat):Int) 64=(m:Int):=by omega
       have hmc:(m:Int)≤(n1:Int):=by omega
       have HKB:=zhd (hb.take hml)
       have HKL:Hid ((ks[i].take m).length=m):=zhd (by rw[List.length_take];omega)
       have hu1:IntKind.u8.wrap (n:Int)=(n:Int):=by rw[IntKind.wrap_u8];omega
       have hu2:IntKind.u8.wrap (i:Int)=(i:Int):=by rw[IntKind.wrap_u8];omega
       have hw4:IntKind.i64.wrap ((i:Int)+4)=((i+4:Nat):Int):=by rw[z0t _ (by omega) (by omega)];omega
       clear hb hcell hQ HQ hij
       go_upto_region 12 with fail
       refine z1r (Fr C0 wr) [] (by kernel_rfl) ?_
       have hSw0:(Fr C0 wr) _:=(Fr.refl C0 wr).drew
       refine tk 0 hSw0 ?_
       refine tk 1 hSw0 ?_
       refine tk 2 hSw0 ?_
       refine tk 3 hSw0 ?_ (hy:=by intro w_ hS_;have b0:=hS_.cell0 hcw;first|(go_simp;done)|(go_simp;with_reducible rfl))
       refine tk 4 hSw0 ?_
       refine tk 5 hSw0 ?_
       refine tk 6 hSw0 ?_
       refine tk 7 hSw0 ?_ (hy:=by intro w_ hS_;have b0:=hS_.cell0 hcw;first|(go_simp;done)|(go_simp;with_reducible rfl))
       refine tk 8 hSw0 ?_ (hy:=by intro w_ hS_;have b0:=hS_.cell0 hcw;first|(go_simp;done)|(go_simp;with_reducible rfl))
       refine tk 9 hSw0 ?_ (hy:=by intro w_ hS_;have b0:=hS_.cell0 hcw;first|(go_simp;done)|(go_simp;with_reducible rfl))
       refine tk 10 hSw0 ?_
       refine tk 11 hSw0 ?_
       refine z1q (by kernel_rfl) ?_ _
       have HPD:=zhd (HPQ.out.fr0 (Fr.refl C0 wr).drew)
       have hk12:6*(12*n+j)<898:=by omega
       have hn256:n<256:=by omega
       have hi256:i<256:=by omega
       have HSZ:Hid (∀o,(wr.drew.alloc o).heap.size=wr.heap.size+1):=zhd (fun o=>by simp[go_sem])
       clear hcw HPQ hmm hmm3
       by_cases hg:i<gs.length
       · have hg1:(i:Int)<(gs.length:Int):=by omega
         obtain⟨g2,o2,hGA,hgc⟩:=HG3.out i hg
         subst hGA
         have hcg:=HPD.out.fr.cell0 hgc
         clear hgc
         cases hgi:gs[i] with
         | true =>
           rw[hgi] at hcg
           have HD:=zhd (zj1 HPD.out HKB.out hk12)
           clear HPD
           go_wp2_with fail
           refine HD.out.mono ?_
           rintro e w4 ⟨b4,er4,rfl,H4⟩
           clear HD hcg hgi
           go_wp2
           go_roundw
           case rel=>exact⟨i+4,by omega,by go_num,zhd (by obtain⟨La',h9⟩:=H4.out;exact⟨j+1,La',by have:=HIJ.out;omega,h9⟩)⟩
           case measure=>simp[intOf];omega
         | false =>
           rw[hgi] at hcg
           have HD:=zhd (zj0 (n:=n) (i:=i) HPD.out HKB.out hk12 hn256 hi256)
           clear HPD
           go_wp2_with fail
           refine HD.out.mono ?_
           rintro e w4 ⟨er4,rfl,H4⟩
           clear HD hcg hgi
           go_wp2
           go_roundw
           case rel=>exact⟨i+4,by omega,by go_num,zhd (by obtain⟨La',h9⟩:=H4.out;exact⟨j+1,La',by have:=HIJ.out;omega,h9⟩)⟩
           case measure=>simp[intOf];omega
       · have hg1:¬(i:Int)<(gs.length:Int):=by omega
         have HD:=zhd (zj0 (n:=n) (i:=i) HPD.out HKB.out hk12 hn256 hi256)
         clear HPD
         go_wp2_with fail
         refine HD.out.mono ?_
         rintro e w4 ⟨er4,rfl,H4⟩
         clear HD
         go_wp2
         go_roundw
         case rel=>exact⟨i+4,by omega,by go_num,zhd (by obtain⟨La',h9⟩:=H4.out;exact⟨j+1,La',by have:=HIJ.out;omega,h9⟩)⟩
         case measure=>simp[intOf];omega
     · have hex:¬(i:Int)<(ks.length:Int)∨(i:Int)<(ks.length:Int)∧¬(i:Int)<40:=by omega
       have HW:=zhd (show ∃La,SnW w d tp bA bB La Ll N (12*n+10) SL SL wr from by obtain⟨j,La,h1,h2⟩:=HQ.out;exact⟨La,h2.le (by omega)⟩)
       clear HQ hlt2
       go_upto_region 10 with fail
       go_cut [41] from 34 to 41 (fun s wx=>s=.bool false∧wx=wr)
       case first=>
        rcases hex with h2|⟨h2,h3⟩
        · go_wp2_with fail
          go_meet
          case rel=>exact⟨rfl,rfl⟩
        · go_wp2_with fail
          go_meet
          case rel=>exact⟨rfl,rfl⟩
       case rest=>
        obtain⟨rfl,rfl⟩:=hcut
        obtain⟨La2,hW⟩:=HW.out
        have HC:=zhd (zj2 hW (by rw[HSL.out];omega) (by omega))
        clear hW HW
        go_wp2_with fail
        refine HC.out.mono ?_
        rintro e w5 ⟨rfl,H5⟩
        have HR:=zhd (zj3 H5.out (by omega))
        clear HC
        go_wp2_with fail
        refine HR.out.mono ?_
        rintro e w6 ⟨A6,cp6,rfl,H6⟩
        have HS:=zhd (zj4 H6.out (by rw[HSL.out];omega))
        clear HR H5
        go_wp2_with fail
        refine HS.out.mono ?_
        rintro e w7 ⟨sp,rfl,H7⟩
        clear HS H6
        obtain⟨c7,OA,SB,a7,o7,p7⟩:=H7.out
        have hsa:=o7.sa
        have hsb:=o7.sb
        have k1:w7.cell? ⟨bA,n,none⟩=some OA[n]:=z2g o7.a.1 n (Array.getElem?_eq_getElem (by omega))
        have z1:=z2e n o7.a.1
        have fk:=(Fr.refl (fun b=>b=bA) w7).setCell (p:=⟨bA,n,none⟩) (.inr rfl) (.slice A6 La2.length cp6)
        have bk:=fk.blk o7.b.1 hAB.symm
        have k2:(w7.setCell ⟨bA,n,none⟩ (.slice A6 La2.length cp6)).cell? ⟨bB,n,none⟩=some SB[n]:=z2g bk n (Array.getElem?_eq_getElem (by omega))
        have z2:=z2e n bk
        have HN:=zhd (H7.out.add HSL.out hlt hAB)
        have HL8:Hid ((SL++[(sp,La2)]).length=n+1):=zhd (by rw[List.length_append,HSL.out];rfl)
        clear a7 o7 p7 fk bk H7
        go_wp2
        go_roundw
        case rel=>exact⟨n+1,by omega,by go_num,zhd ⟨_,_,_,_,HN.out.le (by omega),HL8.out⟩⟩
        case measure=>simp[intOf];omega
  · obtain rfl:n=4:=by omega
    obtain⟨La,Ll,N,SL,hP,hSL⟩:=HP.out
    have HSL:=zhd hSL
    have HS:=zhd (zj5 hP (by omega))
    clear HP hP hSL hlt
    go_wp2_with fail
    refine HS.out.mono ?_
    rintro e w3 ⟨rfl,H3⟩
    clear HS
    go_wp2
    go_loopw [18,19,20] (fun u _ _ wr=>∃n:Nat,n≤4∧u=.int .i64 (n:Int)∧Hid (SnW w d tp bA bB La Ll N (12*4) (SL.drop n) SL wr)) (fun u _ _ _=>4-(intOf u).toNat)
    case atStart=>exact⟨0,by omega,rfl,H3⟩
    case round=>
     obtain⟨n,hn,rfl,HP⟩:=hrel
     clear H3
     by_cases hlt:n<4
     · have h1:(n:Int)<4:=by omega
       have hnl:n<SL.length:=by rw[HSL.out];exact hlt
       have hdr:SL.drop n=SL[n]::SL.drop (n+1):=(List.drop_eq_getElem_cons hnl)
       have hj:SL[n]?=some SL[n]:=List.getElem?_eq_getElem hnl
       have HP2:=zhd (show SnW w d tp bA bB La Ll N (12*4) (SL[n]::SL.drop (n+1)) SL wr from by rw[←hdr];exact HP.out)
       obtain⟨⟨sp,L⟩,hp⟩:∃p,p=SL[n]:=⟨_,rfl⟩
       rw[←hp] at hj HP2
       have HJ:=zhd hj
       have kB:=HP2.out.place hj
       have HR:=zhd (zj7 HP2.out (by simp) hj (by omega))
       clear hp hj hdr HP
       go_wp2_with fail
       refine HR.out.mono ?_
       rintro e w5 ⟨A5,cp5,Ao,co,rfl,kA,H5⟩
       have HSM:=zhd H5.out.same
       clear HR kB
       go_wp2_with fail
       refine HSM.out.mono ?_
       rintro e w6 ⟨rfl,H6⟩
       have kB:=H6.out.place HJ.out
       have HC:=zhd (zj8 H6.out)
       clear HSM H5 kA
       go_wp2_with fail
       refine HC.out.mono ?_
       rintro e w7 ⟨rfl,H7⟩
       clear HC H6 kB
       go_wp2
       go_roundw
       case rel=>exact⟨n+1,by omega,by go_num,H7⟩
       case measure=>simp[intOf];omega
     · obtain rfl:n=4:=by omega
       have hdr:SL.drop 4=[]:=List.drop_eq_nil_of_le (by rw[HSL.out];omega)
       have hP:=HP.out
       rw[hdr] at hP
       have HS:=zhd (zj6 hP (by simp))
       clear HP hP hdr hlt
       go_wp2_with fail
       refine HS.out.mono ?_
       rintro e w8 ⟨sp,rfl,H8⟩
       have HT:=zhd H8.out.told
       have HF:=zhd H8.out.fr
       clear HS H8
       go_wp2_with fail
       refine HT.out.mono ?_
       rintro e w9 ⟨rfl,f9⟩
       have F9:=zhd f9
       clear HT f9
       go_wp2
       go_ret
       exact⟨rfl,HF.out.trans0 F9.out⟩
end
section
open Go.RowKit Go.H Go.ChangeShapes Go.WideShapes Go.ChangeAt Go.Deep
section
variable {H : Type} {enc : TypeId × Value → H} {P : Program} {w : World} {base : Nat}
theorem zja {t e:TypeId} {v:Value} {d:DataW H} {ps:List MemPlace} (ht:P.underlying t=some (.slice e)) (he:P.underlying e=some .bool) (hc:P.cellsOf e=1) (hv:Value.okWide P w .any base t v) (h:DataW.Trod enc P w 0 (fun _=>true) true t v d ps):∃gs,BoolsIn w v gs:=by
 obtain⟨a,len,cap,rfl⟩:=okWide_slice ht hv
 obtain⟨fuel,hf⟩:=h
 rcases open_bools ht he hc hf with⟨hcs,-⟩|⟨a',len',cap',B,hcs,hb,hl,hm,hx,hcell⟩
 · simp[Value.cells] at hcs
   obtain⟨rfl,rfl,rfl⟩:=hcs
   exact⟨[],none,0,rfl,Nat.le_refl _,Nat.zero_le _,fun i h=>absurd h (by simp)⟩
 · simp[Value.cells] at hcs
   obtain⟨rfl,rfl,rfl⟩:=hcs
   refine⟨(List.range len).map B,some a',cap,by simp,by simpa using hl,hm,fun i hi=>?_⟩
   have hi':i<len:=by simpa using hi
   have h1:=hcell i (by omega)
   obtain⟨g,o,sp⟩:=a'
   have hsp:sp=none:=by
    simpa [Addr.add] using World.cell?_spot (hcell 0 (by omega))
   subst hsp
   rw[add_plain] at h1
   exact⟨g,o,rfl,by simpa using h1⟩
end
theorem zjb:Tryz.prog.cellsOf 4=1:=by kernel_rfl
set_option maxRecDepth 100000 in
theorem zjc (os:Os) (started:os.Started) (H:Type) (enc:TypeId×Value→H) :
 ReturnsInHanded {} Tryz.checked os 6 .any (Rows.treeSnapsSpec.pre6 enc Tryz.prog Tryz.f6 Rows.treeSnapsRow.domain false) (Rows.treeSnapsSpec.post enc Tryz.prog Tryz.f6 false true false false):=by
 refine returnsInHanded_of_change (C:=Tryz.checked) zfs started (by kernel_rfl) Tryz.func6
  (ChangeSpec.witness6 (enc:=enc) (C:=Tryz.checked) false ⟨#[],#[.slice none 0 0,.slice none 0 0],[]⟩ 8 (by kernel_rfl) (by kernel_rfl) (by kernel_rfl) (by kernel_rfl)) ?_
 intro W base args ds gs before hval0 hW hcnd _
 have hval:∀(j:Nat) t v,(Tryz.f6).params[j]?=some t→args[j]?=some v→Value.okWide Tryz.prog W .any base t v:=hval0
 have hW':=hW
 obtain⟨p,q,hA0,hV,rfl,hfz,hnd⟩:=hW
 have hA:DataW.TrodAll enc Tryz.prog W 0 (fun _=>true) true (Tryz.f6).params.toList args.toList ds p:=hA0
 rw[Tryz.params6] at hA hval
 obtain⟨v0,vs0,d0,ds0,p0,q0,hargs,rfl,rfl,h0,r0⟩:=trodAll_cons hA
 obtain⟨v1,vs1,d1,ds1,p1,q1,rfl,rfl,rfl,h1,r1⟩:=trodAll_cons r0
 obtain⟨rfl,rfl,rfl⟩:=trodAll_nil r1
 obtain rfl:args=#[v0,v1]:=by cases args;simp_all
 obtain⟨rfl,rfl⟩:=trodVars_none hV
 obtain⟨ks,hk⟩:=zfr Tryz.underlying22 Tryz.underlying30 Tryz.underlying5 zfv zfu (hval 0 22 v0 rfl rfl) h0
 obtain⟨gs2,hg⟩:=zja Tryz.underlying55 Tryz.underlying4 zjb (hval 1 55 v1 rfl rfl) h1
 refine(zj9 hk hg).mono fun e W' ⟨he,hf⟩=>?_
 subst he
 exact⟨_,rfl,z01 zft (by decide +kernel) rfl rfl Tryz.underlying4 hW' rfl hf⟩
theorem zjd:Rows.treeSnapsRow.holds Tryz.pinned (OpenSpec.ofChange Rows.treeSnapsSpec):=
 OpenClaim.holds_of_wide 6 Tryz.f6 rfl rfl rfl rfl rfl rfl rfl ⟨rfl,rfl,rfl,rfl,rfl⟩ rfl rfl rfl rfl rfl (by kernel_rfl) Tryz.func6 (by kernel_rfl)
  (of_decide_eq_true (by kernel_rfl)) (by unfold Func.isWrapper;first|(rw[if_pos (by decide +kernel)];kernel_rfl)|(rw[if_neg (by decide +kernel)];exact⟨rfl,rfl⟩))
  (fun os started H enc _=>zjc os started H enc)
theorem tree_snaps:Rows.TreeSnapsSaid:=zjd
end
end Go.Proofs.YtcmicdcikechkaaGreat
