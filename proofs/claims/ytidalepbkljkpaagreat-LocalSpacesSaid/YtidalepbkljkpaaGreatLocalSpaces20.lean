import Derived.Test.YtidalepbkljkpaaGreatLocalSpaces14
set_option linter.all false
namespace Go.H
section
theorem zam {x:KV} {l:List KV} (hs:Sorted l) :
 if (findL x.1 l).2 then(findL x.1 l).1<l.length∧putL x l=l.set (findL x.1 l).1 x∧getL x.1 l≠none
 else(findL x.1 l).1≤l.length∧putL x l=l.take (findL x.1 l).1++x::l.drop (findL x.1 l).1∧getL x.1 l=none:=by
 obtain⟨A,B,rfl,h1,h2,⟨e,y,R,rfl,hy,hR⟩|⟨e,hB⟩⟩:=z8c x.1 hs
 · rw[e,if_pos rfl,h1]
   refine⟨by simp,?_,?_⟩
   · rw[z6i h2,z6q hy,List.set_append_right _ _ (Nat.le_refl _)];simp
   · rw[z6n h2,z6s hy];simp
 · rw[e]
   simp only[Bool.false_eq_true,if_false,h1]
   refine⟨by simp,?_,?_⟩
   · rw[z6i h2,z6t hB];simp
   · rw[z6n h2,z6o hB]
theorem zan {x:KV} {l:List KV} {fs:List (List KV)} (h:fs.length=l.length+1) (hs:Sorted (inter l fs)) :
 if (findL x.1 l).2 then(findL x.1 l).1<l.length∧putL x (inter l fs)=inter (l.set (findL x.1 l).1 x) fs∧getL x.1 (inter l fs)≠none
 else ∃h:(findL x.1 l).1<fs.length,Sorted fs[(findL x.1 l).1]∧getL x.1 (inter l fs)=getL x.1 fs[(findL x.1 l).1]∧
  (∀f',f'=putL x fs[(findL x.1 l).1]→inter l (fs.set (findL x.1 l).1 f')=putL x (inter l fs))∧
  (∀a mid b,a++mid::b=putL x fs[(findL x.1 l).1]→inter (l.take (findL x.1 l).1++mid::l.drop (findL x.1 l).1) ((fs.set (findL x.1 l).1 a).take ((findL x.1 l).1+1)++b::(fs.set (findL x.1 l).1 a).drop ((findL x.1 l).1+1))=putL x (inter l fs)):=by
 obtain⟨A,B,f1,f,f2,rfl,rfl,hf1,hf2,h1,he,h2,⟨e,y,R,f',f2',rfl,rfl,hy,hL,hR⟩|⟨e,hA,hB⟩⟩:=z8b x.1 h hs
 · rw[e,if_pos rfl,h1]
   refine⟨by simp,?_,?_⟩
   · rw[he,show interT (y::R) (f'::f2')=y::(f'++interT R f2') from rfl,←List.append_assoc,z6i hL,z6q hy,List.set_append_right _ _ (Nat.le_refl _),Nat.sub_self,List.set_cons_zero,z6w _ _ _ hf1]
     simp[interT]
   · rw[he,show interT (y::R) (f'::f2')=y::(f'++interT R f2') from rfl,←List.append_assoc,z6n hL,z6s hy];simp
 · rw[e]
   simp only[Bool.false_eq_true,if_false,h1]
   have hget:(f1++f::f2)[A.length]?=some f:=by rw[←hf1];simp
   have hlt:A.length<(f1++f::f2).length:=by simp;omega
   have hge:(f1++f::f2)[A.length]=f:=by
    have:=List.getElem?_eq_getElem hlt
    rw[hget] at this;injection this with this;exact this.symm
   refine⟨hlt,?_⟩
   rw[hge]
   refine⟨?_,?_,?_,?_⟩
   · rw[he] at hs
     exact(List.pairwise_append.1 (List.pairwise_append.1 hs).2.1).1
   · rw[he,z6n hA,z6p hB]
   · rintro f' rfl
     rw[he,z6i hA,z6j hB,←hf1,List.set_append_right _ _ (Nat.le_refl _),Nat.sub_self,List.set_cons_zero,z6w _ _ _ hf1]
   · intro a mid b hab
     rw[he,z6i hA,z6j hB,←hab,←hf1,List.set_append_right _ _ (Nat.le_refl _),Nat.sub_self,List.set_cons_zero]
     have e1:(f1++a::f2).take (f1.length+1)=f1++[a]:=by
      rw[List.take_append,List.take_of_length_le (by omega)];simp
     have e2:(f1++a::f2).drop (f1.length+1)=f2:=by
      rw[List.drop_append,List.drop_of_length_le (by omega)];simp
     have e3:(A++B).take f1.length=A:=by rw[hf1];simp
     have e4:(A++B).drop f1.length=B:=by rw[hf1];simp
     rw[e1,e2,e3,e4]
     have:=z6w (mid::B) a (b::f2) (l1:=A) (f1:=f1) hf1
     rw[show f1++[a]++b::f2=f1++a::b::f2 by simp,this]
     simp[interT]
theorem zao {l:List KV} {fs:List (List KV)} (h:l.length=5) (hf:fs.length=6):inter (l.take 2) (fs.take 3)++(l[2]'(by omega))::inter (l.drop 3) (fs.drop 3)=inter l fs:=by
 rw[←z6x (l[2]'(by omega)) (l.drop 3) (fs.drop 3) (l1:=l.take 2) (f1:=fs.take 3) (by simp;omega) (by intro e;have:=congrArg List.length e;simp at this;omega)]
 rw[←List.drop_eq_getElem_cons,List.take_append_drop,List.take_append_drop]
theorem zap {l:List KV} (h:l.length=5):l.take 2++(l[2]'(by omega))::l.drop 3=l:=by
 rw[←List.drop_eq_getElem_cons,List.take_append_drop]
theorem zaq:∀{l:List Nat} {i a:Nat} (h:i<l.length),sumN (l.set i a)+l[i]=sumN l+a
 |x::l,0,a,_=>by simp[sumN];omega
 | x :: l, i + 1, a, h => by
   have:=zaq (l:=l) (i:=i) (a:=a) (by simpa using h)
   simp only[List.set_cons_succ,sumN,List.getElem_cons_succ] at this⊢;omega
theorem zar (l:List Nat) (i b:Nat):sumN (l.take i++b::l.drop i)=sumN l+b:=by
 have:=z74 (l.take i) (l.drop i)
 rw[List.take_append_drop] at this
 rw[z74]
 simp only[sumN];omega
theorem zas (l:List Nat) (i:Nat):sumN (l.take i)+sumN (l.drop i)=sumN l:=by
 rw[←z74,List.take_append_drop]
end
end Go.H
