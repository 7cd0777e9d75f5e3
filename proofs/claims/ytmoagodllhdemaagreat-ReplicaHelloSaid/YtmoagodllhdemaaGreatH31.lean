/-
  A part of the proof: lemmas, and contracts of functions; their conditions stand in them.
-/
import Derived.Test.YtmoagodllhdemaaGreatH28
import Derived.Test.YtmoagodllhdemaaGreatH30
import Derived.Test.YtmoagodllhdemaaGreatH01
namespace Go.Proofs.YtmoagodllhdemaaGreat
set_option linter.unusedSimpArgs false
set_option linter.unusedVariables false
set_option maxHeartbeats 4000000
set_option maxRecDepth 100000
section
open Go.RowKit Go.Shelf
attribute [local go_sem] Oper.semAt_some
def Zi (bl ol:List Int) (k:Nat):List Int:=(List.zipWith (fun b o=>if o = -1 then b else o) bl ol).take k++bl.drop k
def Jb (ol:List Int) (k:Nat):List Int:=List.replicate k (-1)++ol.drop k
def Xn (bl ol:List Int) (k:Nat):List Int:=((bl.zip ol).take k).flatMap (fun p=>if p.2 = -1 then [] else if 0<ZF p.1 p.2 then [ZF p.1 p.2] else [])
section
variable {bl ol:List Int} {k:Nat}
theorem Jl (h:bl.length=ol.length) (hk:k≤bl.length):(Zi bl ol k).length=bl.length:=by simp [Zi];omega
theorem KV (hk:k≤ol.length):(Jb ol k).length=ol.length:=by simp [Jb];omega
theorem KAw (h:bl.length=ol.length) (hk:k<bl.length):(Zi bl ol k)[k]? = some bl[k]:=by
 have hl:((List.zipWith (fun b o=>if o = -1 then b else o) bl ol).take k).length=k:=by simp;omega
 unfold Zi
 rw [List.getElem?_append_right (by omega),hl,Nat.sub_self,List.getElem?_drop]
 simp [hk]
theorem QAE (hk:k<ol.length):(Jb ol k)[k]? = some ol[k]:=by
 unfold Jb
 rw [List.getElem?_append_right (by simp),List.length_replicate,Nat.sub_self,List.getElem?_drop]
 simp [hk]
theorem QAZ (h:bl.length=ol.length) (hk:k<bl.length):Zi bl ol (k+1)=(Zi bl ol k).set k (if ol[k]'(by omega) = -1 then bl[k] else ol[k]'(by omega)):=by
 have hz:k<(List.zipWith (fun b o=>if o = -1 then b else o) bl ol).length:=by simp;omega
 have hl:((List.zipWith (fun b o=>if o = -1 then b else o) bl ol).take k).length=k:=by simp;omega
 unfold Zi
 rw [List.take_succ_eq_append_getElem hz,List.set_append_right _ _ (by omega),hl,Nat.sub_self,List.drop_eq_getElem_cons hk,List.set_cons_zero]
 simp
theorem Zw (hk:k<ol.length):Jb ol (k+1)=(Jb ol k).set k (-1):=by
 unfold Jb
 rw [List.replicate_succ',List.set_append_right _ _ (by simp),List.length_replicate,Nat.sub_self,List.drop_eq_getElem_cons hk,List.set_cons_zero]
 simp
theorem VAa (h:bl.length=ol.length) (hk:k<bl.length):Xn bl ol (k+1)=Xn bl ol k++if ol[k]'(by omega) = -1 then [] else if 0<ZF bl[k] (ol[k]'(by omega)) then [ZF bl[k] (ol[k]'(by omega))] else []:=by
 have hz:k<(bl.zip ol).length:=by simp;omega
 unfold Xn
 rw [List.take_succ_eq_append_getElem hz,List.flatMap_append]
 simp
theorem Jj (bl ol:List Int) (k:Nat):(Xn bl ol k).length≤k:=by
 unfold Xn
 have:∀ l:List (Int×Int),(l.flatMap (fun p=>if p.2 = -1 then [] else if 0<ZF p.1 p.2 then [ZF p.1 p.2] else [])).length≤l.length:=by
  intro l
  induction l with
  | nil=>simp
  | cons p l ih=>
    rw [List.flatMap_cons,List.length_append,List.length_cons]
    have:(if p.2 = -1 then [] else if 0<ZF p.1 p.2 then [ZF p.1 p.2] else []).length≤1:=by
     split
     · simp
     · split <;> simp
    omega
 refine Nat.le_trans (this _) ?_
 simp;omega
theorem Jy (b z:Int) (h:0≤b):0≤ZF b z∧ZF b z≤b:=by
 unfold ZF;split <;> omega
theorem KAR (h:bl.length=ol.length) (h1:∀ x∈bl,0≤x∧x<4096) (h2:∀ x∈ol,-1≤x∧x<4096):∀ x∈Zi bl ol k,0≤x∧x<4096:=by
 intro x hx
 rcases List.mem_append.1 hx with hx | hx
 · obtain ⟨i,hi,rfl⟩:=List.mem_iff_getElem.1 (List.mem_of_mem_take hx)
   rw [List.getElem_zipWith]
   have q1:=h1 _ (List.getElem_mem (l:=bl) (n:=i) (by simp at hi;omega))
   have q2:=h2 _ (List.getElem_mem (l:=ol) (n:=i) (by simp at hi;omega))
   split
   · exact q1
   · omega
 · exact h1 x (List.mem_of_mem_drop hx)
theorem Xp (h2:∀ x∈ol,-1≤x∧x<4096):∀ x∈Jb ol k,-1≤x∧x<4096:=by
 intro x hx
 rcases List.mem_append.1 hx with hx | hx
 · have:=List.eq_of_mem_replicate hx;omega
 · exact h2 x (List.mem_of_mem_drop hx)
end
structure KCom (w:World) (base m p1 p2:Nat) (F F1 F2:List Nat) (I:PImage) (pre:List PRnd) (W:World):Prop where
 img:∃ bd od,ImageIs W base m p1 p2 F F1 F2 ⟨Zi I.bl I.ol pre.length,bd,Jb I.ol pre.length,od⟩
 out:∃ ov,Boxed W (w.heap.size+1) 75 ov∧W.ownsRow w.heap.size 3 1 ov (Xn I.bl I.ol pre.length).length (QQ (Xn I.bl I.ol pre.length))
 b1:Boxed W w.heap.size 99 (.pointer (some ⟨m,0,none⟩))
 keep:Keep F w W
 few:pre.length≤I.ol.length
theorem ImageIs.putObj {W:World} {base m p1 p2 k:Nat} {F F1 F2:List Nat} {I:PImage} {o:Obj} (h:ImageIs W base m p1 p2 F F1 F2 I) (o':Obj) (hl:W.heap[k]? = some o) (ho:o.isCells=false):ImageIs (W.putObj k o') base m p1 p2 F F1 F2 I:=
 ⟨XN o' h.blk hl ho,h.b.putObj o' hl ho,h.o.putObj o' hl ho,h.apart,h.m1,h.m2,h.foot,h.base,h.ok⟩
theorem PagedAt.isCells {W:World} {base p:Nat} {F:List Nat} {l:List Int} {ds:List Bool} (h:PagedAt W base p F l ds):∀ g∈F,∀ o,W.heap[g]? = some o→o.isCells=true:=by
 obtain ⟨L,U,h⟩:=h;exact h.isCells
theorem KCom.kept {w A B:World} {base m p1 p2:Nat} {F F1 F2:List Nat} {I:PImage} {pre:List PRnd} (h:KCom w base m p1 p2 F F1 F2 I pre A) (hk:Keep [] A B):KCom w base m p1 p2 F F1 F2 I pre B:=by
 obtain ⟨bd,od,h1⟩:=h.img
 obtain ⟨ov,h2,h3⟩:=h.out
 exact ⟨⟨bd,od,h1.keep0 hk⟩,⟨ov,QB h2 hk (by simp),YB h3 hk⟩,QB h.b1 hk (by simp),h.keep.trans0 hk,h.few⟩
theorem KCom.turned {w W:World} {base m p1 p2 k:Nat} {F F1 F2:List Nat} {I:PImage} {pre:List PRnd} {o o':Obj} (h:KCom w base m p1 p2 F F1 F2 I pre W) (hl:w.heap.size≤k) (hg:W.heap[k]? = some o) (ho:o.isCells=false):KCom w base m p1 p2 F F1 F2 I pre (W.putObj k o'):=by
 obtain ⟨bd,od,h1⟩:=h.img
 obtain ⟨ov,h2,h3⟩:=h.out
 exact ⟨⟨bd,od,h1.putObj o' hg ho⟩,⟨ov,QD o' h2 hg ho,ownsRow_putObj h3 o' hg ho⟩,QD o' h.b1 hg ho,h.keep.putObj hl o',h.few⟩
theorem XAU (w:World) (base m:Nat) (F:List Nat) (I:PImage) (h:ImageAt w base m F I) :
 Calls Tryz.prog 260 #[.pointer (some ⟨m,0,none⟩)] w fun e w'=>∃ G bd od,e = .returned G∧w'.ownsRow w.heap.size 3 1 G (Xn I.bl I.ol I.ol.length).length (QQ (Xn I.bl I.ol I.ol.length)) ∧
  ImageAt w' base m F ⟨Zi I.bl I.ol I.ol.length,bd,Jb I.ol I.ol.length,od⟩∧Keep F w w':=by
 obtain ⟨p1,p2,F1,F2,h⟩:=h
 refine (callsIn_wide (n:=3)).1 ?_
 refine callsIn_of_wp_marks Tryz.func260 rfl trivial ?_ rfl
 simp only [Tryz.ntmps260,List.size_toArray,List.length_cons,List.length_nil,Nat.reduceAdd,Nat.reduceSub,Array.replicate_succ,Array.replicate_zero,List.push_toArray,List.append_toArray,List.nil_append,List.cons_append]
 have hT:=fun W (hk:Keep [] w W)=>callsIn_wide (n:=2).2 (XO W base m p1 p2 F F1 F2 I (h.keep0 hk) true)
 gi_wp2_with (first
  | (refine ⟨trivial,?_⟩;refine (hT _ (((Keep.refl _ _).alloc _).alloc _)).mono ?_;rintro e w' ⟨rfl,rfl⟩)
  | (refine ⟨trivial,?_⟩;refine (Zs _ _ _ rfl).mono ?_;rintro e w' ⟨rfl,rfl⟩))
 obtain ⟨w1,hw1⟩:∃ w1,w1=w.alloc (.cells #[.pointer (some ⟨m,0,none⟩)] 99):=⟨_,rfl⟩
 obtain ⟨w2,hw2⟩:∃ w2,w2=w1.alloc (.cells #[.slice none 0 0] 75):=⟨_,rfl⟩
 obtain ⟨w3,hw3⟩:∃ w3,w3=w2.alloc (.cells #[.pointer (some ⟨p2,0,none⟩)] 209):=⟨_,rfl⟩
 rw [← hw1,← hw2,← hw3]
 have s1:w1.heap.size=w.heap.size+1:=by rw [hw1,World.size_alloc]
 have s2:w2.heap.size=w.heap.size+2:=by rw [hw2,World.size_alloc,s1]
 have s3:w3.heap.size=w.heap.size+3:=by rw [hw3,World.size_alloc,s2]
 have k1:Keep [] w w1:=by rw [hw1];exact (Keep.refl _ _).alloc _
 have k2:Keep [] w1 w2:=by rw [hw2];exact (Keep.refl _ _).alloc _
 have k3:Keep [] w2 w3:=by rw [hw3];exact (Keep.refl _ _).alloc _
 have kw:Keep [] w w3:=(k1.trans0 k2).trans0 k3
 have b1:Boxed w3 w.heap.size 99 (.pointer (some ⟨m,0,none⟩)):=QB (by rw [hw1];exact Boxed.new w _ _) (k2.trans0 k3) (by simp)
 have b2:Boxed w3 (w.heap.size+1) 75 (.slice none 0 0):=QB (by rw [hw2,← s1];exact Boxed.new w1 _ _) k3 (by simp)
 have bc:Boxed w3 (w.heap.size+1+1) 209 (.pointer (some ⟨p2,0,none⟩)):=by rw [hw3,show w.heap.size+1+1=w2.heap.size by omega];exact Boxed.new w2 _ _
 have hlen:=h.ok.1
 have h0:KCom w base m p1 p2 F F1 F2 I [] w3:=⟨⟨I.bd,I.od,by have:=h.keep0 kw;simpa [Zi,Jb] using this⟩,⟨_,b2,World.ownsRow_nil _ _ _ _⟩,b1,kw.zero,Nat.zero_le _⟩
 have hlt:=h.lt
 have hseq:=Zx 2 (w.heap.size+1+1) base p2 I.ol.length F2 w3 ⟨I.ol,I.od,rfl,h.o.keep0 kw⟩ bc
 refine JO (n:=3) (gf:=208) (lb:=#[.pointer (some ⟨w.heap.size+1+1,0,none⟩)]) rfl (enters_of Tryz.func208 (by kernel_rfl) rfl)
  hseq
  (fun A B C h k=>⟨fun hb=>k.1 (h.1 hb),fun hb=>k.2 (h.2 hb)⟩)
  (fun W l o o' hl hg' ho=>⟨fun hb=>QD o' hb hg' ho,fun ⟨ls,ds,q1,q2⟩=>⟨ls,ds,q1,q2.putObj o' hg' ho⟩⟩)
  (fun _=>rfl) (KCom w base m p1 p2 F F1 F2 I) (fun s A B h hk=>h.kept hk) (fun s W l o o' h hl hg' ho=>h.turned (by omega) hg' ho)
  (fun pre x W l o o' h hl hg' ho=>⟨h.1,by obtain ⟨ls,ds,q1,q2,q3⟩:=h.2;exact ⟨ls,ds,q1,q2.putObj o' hg' ho,q3⟩⟩) h0
  (fun x=>{ tmps:=#[.pointer (some ⟨m,0,none⟩),.pointer (some ⟨w.heap.size,0,none⟩),.pointer (some ⟨w.heap.size+1,0,none⟩),.int .i64 (x.1:Nat),.int .i64 x.2,undef,.pointer (some ⟨m,0,none⟩),.pointer (some ⟨p2,0,none⟩),
    .func (.func 208) #[] #[.pointer (some ⟨w.heap.size+1+1,0,none⟩)],.int .i64 (x.1:Nat),.int .i64 x.2,undef,undef,undef,undef,undef,undef,undef,undef,undef,undef,undef,undef,undef,undef,undef,undef,undef,undef,undef,undef,undef,undef],defers:=[] }) ?assign ?body ?done
 case assign=>
  rintro l ⟨k,z⟩ W K hK
  dsimp only [QT] at hK ⊢
  gi_wp2
  exact hK
 case body=>
  rintro l pre ⟨k,z⟩ W hI ⟨hk,ls,ds,q1,q2,q3⟩
  dsimp only at hk q3 ⊢
  obtain ⟨bd,od,him⟩:=hI.img
  obtain ⟨ov,hb2,hov⟩:=hI.out
  have hzz:=him.o.unique q2
  subst hk
  have hkl:pre.length<I.ol.length:=by rw [← q1];exact (List.getElem?_eq_some_iff.1 q3).1
  have hkb:pre.length<I.bl.length:=by omega
  rw [← hzz,QAE hkl] at q3
  have hz:I.ol[pre.length]=z:=by simpa using q3
  have hB:=QAZ (k:=pre.length) hlen hkb
  have hO:=Zw (k:=pre.length) hkl
  have hG:=VAa (k:=pre.length) hlen hkb
  have hBat:=KAw (k:=pre.length) hlen hkb
  rw [hz] at hB hG
  have hrng:=KAR (k:=pre.length+1) hlen h.ok.2.1 h.ok.2.2
  have hrngO:=Xp (ol:=I.ol) (k:=pre.length+1) h.ok.2.2
  have hBl:(Zi I.bl I.ol pre.length).length=I.bl.length:=Jl hlen (by omega)
  have hOl:(Jb I.ol pre.length).length=I.ol.length:=KV (by omega)
  rw [hB] at hrng
  rw [hO] at hrngO
  have hb2l:=hb2.lt
  have hb1l:=hI.b1.lt
  have hIk:=hI.keep
  have hIb:=hI.b1
  have hnm1:m≠w.heap.size:=fun e=>by have:=hlt m (by rw [him.foot];simp);omega
  have hnm2:m≠w.heap.size+1:=fun e=>by have:=hlt m (by rw [him.foot];simp);omega
  have hF1n:∀ x∈F1,x<w.heap.size:=fun x hx=>hlt x (him.subB x hx)
  have hF2n:∀ x∈F2,x<w.heap.size:=fun x hx=>hlt x (him.subO x hx)
  have hfoot:=him.foot
  have hsz:=hI.keep.size
  obtain ⟨c0,c1⟩:=him.cells
  have d1:=hI.b1.cell
  have hPost:∀ (gn:List Int) (cB cO:List Int),Zi I.bl I.ol (pre.length+1)=cB→Jb I.ol (pre.length+1)=cO→Xn I.bl I.ol (pre.length+1)=gn→∀ (W':World) (bd' od':List Bool) (ov':Value) (K:List Nat),ImageIs W' base m p1 p2 F F1 F2 ⟨cB,bd',cO,od'⟩→Boxed W' (w.heap.size+1) 75 ov' →
   W'.ownsRow w.heap.size 3 1 ov' gn.length (QQ gn)→Keep K W W'→(∀ x∈K,x∈F∨(w.heap.size<x∧(Boxed W (w.heap.size+1+1) 209 (.pointer (some ⟨p2,0,none⟩))→¬ x=w.heap.size+1+1)∧∀ o,W.heap[x]? = some o→o.isCells=true)) →
   KeepsFrom w3.heap.size W W'∧YAF base p2 I.ol.length (w.heap.size+1+1) F2 W W'∧KCom w base m p1 p2 F F1 F2 I (pre++[(pre.length,z)]) W':=by
   intro gn cB cO eB eO eG W' bd' od' ov' K g1 g2 g3 hK hKx
   have hsub:∀ x∈K,x≠w.heap.size∧(Boxed W (w.heap.size+1+1) 209 (.pointer (some ⟨p2,0,none⟩))→x≠w.heap.size+1+1):=fun x hx=>by
    rcases hKx x hx with h | h
    · have:=hlt x h;exact ⟨by omega,fun _=>by omega⟩
    · exact ⟨by omega,h.2.1⟩
   refine ⟨hK.fromCells (fun x hx o ho=>?_) _,⟨fun hb=>QB hb hK (fun hm=>(hsub _ hm).2 hb rfl),fun _=>?_⟩,⟨?_,?_,QB hIb hK (fun hm=>(hsub _ hm).1 rfl),?_,by simp;omega⟩⟩
   · rcases hKx x hx with h | h
     · rw [hfoot] at h
       simp only [List.mem_cons,List.mem_append] at h
       rcases h with rfl | h | h
       · rw [show W.heap[_]? = _ from him.blk] at ho;cases ho;rfl
       · exact him.b.isCells x h o ho
       · exact him.o.isCells x h o ho
     · exact h.2.2 o ho
   · refine ⟨_,_,?_,g1.o⟩
     rw [← eO,KV (by omega)]
   · rw [List.length_append,List.length_singleton,eB,eO];exact ⟨_,_,g1⟩
   · rw [List.length_append,List.length_singleton,eG];exact ⟨_,g2,g3⟩
   · exact hIk.trans hK (fun x hx=>(hKx x hx).imp id (fun h=>by omega))
  have HPOST:=JC hPost
  have HFOOT:=JC hfoot
  have HS3:=JC s3
  obtain ⟨OA,oc,rfl,_⟩:=KB hov
  have HIM:=JC him
  have HB2:=JC hb2
  have HOV:=JC hov
  by_cases hz1:z = -1
  · subst hz1
    have e1:(Jb I.ol pre.length).set pre.length (-1)=Jb I.ol pre.length:=by
     have hx:pre.length<(Jb I.ol pre.length).length:=by omega
     have:=QAE (k:=pre.length) hkl
     rw [List.getElem?_eq_getElem hx,hz] at this
     rw [← (Option.some.inj this)];exact List.set_getElem_self hx
    have e2:(Zi I.bl I.ol pre.length).set pre.length (if (-1:Int) = -1 then I.bl[pre.length] else -1)=Zi I.bl I.ol pre.length:=by
     have hx:pre.length<(Zi I.bl I.ol pre.length).length:=by omega
     have:=hBat
     rw [List.getElem?_eq_getElem hx] at this
     rw [if_pos rfl,← (Option.some.inj this)];exact List.set_getElem_self hx
    rw [e2] at hB
    rw [e1] at hO
    rw [if_pos rfl,List.append_nil] at hG
    have hR:=JA HPOST _ _ _ hB hO hG _ _ _ _ _ (JA HIM) (JA HB2) (JA HOV) (Keep.refl [] W) (by simp)
    clear h0 b1 b2 bc kw k1 k2 k3 hw1 hw2 hw3 s1 s2 s3 hseq hI hPost hfoot e1 e2 hG hO hB hBat hrng hrngO
    gi_wp2
    exact hR
  · have hBx:pre.length<(Zi I.bl I.ol pre.length).length:=by omega
    have hOx:pre.length<(Jb I.ol pre.length).length:=by omega
    have hgl:(Zi I.bl I.ol pre.length)[pre.length]=I.bl[pre.length]:=by
     have:=hBat
     rw [List.getElem?_eq_getElem hBx] at this
     exact Option.some.inj this
    rw [if_neg hz1] at hB hG hrng
    have hTs:=callsIn_wide (n:=0).2 (Ku W base p1 F1 _ _ him.b pre.length hBx z)
    have hTo:=fun W' (hP:PagedAt W' base p2 F2 (Jb I.ol pre.length) od)=>callsIn_wide (n:=0).2 (VAg W' base p2 F2 _ _ hP pre.length hOx (-1))
    simp only [hgl] at hTs
    have hbr:=h.ok.2.1 _ (List.getElem_mem hkb)
    have hfewI:=him.b.few
    simp only at hfewI
    have hgs:=Jy I.bl[pre.length] z (by omega)
    have hgc:(Xn I.bl I.ol pre.length).length≤64:=by
     have:=Jj I.bl I.ol pre.length
     omega
    generalize ZF I.bl[pre.length] z=y at *
    generalize I.bl[pre.length]=bb at *
    have hbs:=him.b
    have hos:=him.o
    have hblk:=him.blk
    have hm1':=him.m1
    have hap:=him.apart
    have hmlt:m<w.heap.size:=hlt m (by rw [him.foot];simp)
    clear h0 b1 b2 bc kw k1 k2 k3 hw1 hw2 hw3 s1 s2 s3 hseq hI hPost hfoot hBat hgl hbr
    have HRO:=JC hrngO
    clear hrngO
    have hzI:(z == -1)=false:=by simpa using hz1
    have himB:∀ (W2:World) (d1:List Bool),PagedAt W2 base p1 F1 ((Zi I.bl I.ol pre.length).set pre.length z) d1→Keep F1 W W2→ImageIs W2 base m p1 p2 F F1 F2 ⟨(Zi I.bl I.ol pre.length).set pre.length z,d1,Jb I.ol pre.length,od⟩:=fun _ _ g1 g2=>
     (JA HIM).setB g1 g2 (by simp) hrng
    have HB:=JC hB
    have HO:=JC hO
    have HG:=JC hG
    have HHB:=JC himB
    clear hB hO hG hrng himB
    have hovc:=hov
    generalize Xn I.bl I.ol pre.length=gl at *
    clear hov hb2
    have hF1b:∀ x∈F1,x≠w.heap.size∧x≠w.heap.size+1:=fun x hx=>by have:=hF1n x hx;omega
    have hovF:∀ g,(Value.slice OA gl.length oc).ownBlock=some g→g∉F1:=fun g hg hm=>by have:=(own_mem (JA HOV) (by simpa using hg)).1;have:=hF1n g hm;omega
    have hovm:∀ g,(Value.slice OA gl.length oc).ownBlock=some g→w.heap.size≤g:=fun g hg=>(own_mem (JA HOV) (by simpa using hg)).1
    have hovB:(Value.slice OA gl.length oc).ownBlock≠some (w.heap.size+1):=fun e=>(JA HB2).not_row (by decide) (JA HOV) e.symm
    have hovA:(Value.slice OA gl.length oc).ownBlock≠some w.heap.size:=fun e=>hIb.not_row (by decide) (JA HOV) e.symm
    have hovM:m∉(Value.slice OA gl.length oc).ownBlock.toList:=fun hm=>by have:=hovm m (by simpa using hm);omega
    have hF2o:Apart F2 (Value.slice OA gl.length oc).ownBlock.toList:=fun x hx hm=>by have:=hovm x (by simpa using hm);have:=hF2n x hx;omega
    have hF2b:Apart F2 [w.heap.size+1]:=fun x hx hm=>by have:=hF2n x hx;simp at hm;omega
    by_cases hy:0<y
    · have hy0:¬ y≤0:=by omega
      gi_wp2_with (first
       | (refine ⟨trivial,?_⟩;refine hTs.mono ?_;clear hTs;rintro e W2 ⟨rfl,hp1,hk2⟩;(have e1:=(QB hIb hk2 (fun hm=>(hF1b _ hm).1 rfl)).cell);(have hb2':=QB (JA HB2) hk2 (fun hm=>(hF1b _ hm).2 rfl));(have e2:=hb2'.cell);(have ho2:=JB (JA HOV) hk2 hovF);(have hsz2:=hk2.size);(have hbm2:=hblk.keep hk2 hm1');(have m20:=(hbm2.cell 0).trans (show _=some (Value.pointer (some ⟨p1,0,none⟩)) from rfl));(have m21:=(hbm2.cell 1).trans (show _=some (Value.pointer (some ⟨p2,0,none⟩)) from rfl)))
       | (gi_at_builtin;refine elemIntsN.wpIn_app rfl _ _ rfl w.heap.size _ gl.length (QQ gl) rfl (QE ho2 _) ⟨W2.heap.size,0,none⟩ 1 1 [.int .i64 y] rfl (VO _ _ _) (by simp [Value.oneCell']) (by omega) (by omega) (by simp;omega) ?_;intro v' W3 hv' hk3 hat;(obtain ⟨VA,vc,rfl,_⟩:=KB hv');(have hkA:Keep (Value.slice OA gl.length oc).ownBlock.toList W2 W3:=((Keep.refl _ _).alloc _).trans hk3 (fun x hx => .inl hx));(have hb3:=QB hb2' hkA (by simpa using hovB));(have e3:=hb3.cell);(have f3:=hb3.frozen);(have e4:=(QB (QB hIb hk2 (fun hm=>(hF1b _ hm).1 rfl)) hkA (by simpa using hovA)).cell);(have hbm3:=hbm2.keep hkA hovM);(have m31:=(hbm3.cell 1).trans (show _=some (Value.pointer (some ⟨p2,0,none⟩)) from rfl))))
      have hkS:Keep [w.heap.size+1] W3 (W3.setCell ⟨w.heap.size+1,0,none⟩ (.slice VA (gl.length+1) vc)):=(Keep.refl _ _).setCell (.inl (by simp)) _
      have hos4:=((hos.keep hk2 hap.symm).keep hkA hF2o).keep hkS hF2b
      gi_wp2_with (refine ⟨trivial,?_⟩;refine (hTo _ hos4).mono ?_;rintro e W5 ⟨rfl,hp5,hk5⟩)
      have hFo:Apart F (Value.slice OA gl.length oc).ownBlock.toList:=fun x hx hm=>by have:=hovm x (by simpa using hm);have:=hlt x hx;omega
      have hFB:Apart F [w.heap.size+1]:=fun x hx hm=>by have:=hlt x hx;simp at hm;omega
      have im:=((((JA HHB _ _ hp1 hk2).keep hkA hFo).keep hkS hFB).setO hp5 hk5 (by simp) (JA HRO))
      have hb5:=QB (hb3.set (.slice VA (gl.length+1) vc)) hk5 (fun hm=>by have:=hF2n _ hm;omega)
      have hv5:=JB (own_set hv' (fun hm=>hb3.not_row (by decide) hv' (Eq.symm (by simpa using hm))) (.slice VA (gl.length+1) vc)) hk5 (fun g hg hm=>by have:=(own_mem hv' (by simpa using hg)).1;have:=hF2n g hm;omega)
      have hKK:Keep (F++((Value.slice OA gl.length oc).ownBlock.toList++[w.heap.size+1])) W W5:=
       (((hk2.sub (fun x hx=>List.mem_append_left _ ((JA HIM).subB x hx))).trans hkA (fun x hx => .inl (by simp at hx;simp [hx]))).trans hkS (fun x hx => .inl (by simp at hx;simp [hx]))).trans hk5 (fun x hx => .inl (List.mem_append_left _ ((JA HIM).subO x hx)))
      have hGL:Xn I.bl I.ol (pre.length+1)=gl++[y]:=by rw [JA HG,if_pos hy]
      refine JA HPOST _ _ _ (JA HB) (JA HO) hGL _ _ _ _ _ im hb5 ?_ hKK ?_
      · rw [List.length_append,List.length_singleton,show QQ (gl++[y])=QQ gl++[.int .i64 y] by simp [QQ,i64]];exact hv5
      · intro x hx
        rcases List.mem_append.1 hx with hx | hx
        · exact .inl hx
        · rcases List.mem_append.1 hx with hx | hx
          · have h1:=hovm x (by simpa using hx)
            refine .inr ⟨?_,fun hb e=>?_,fun o ho=>JP (JA HOV) x hx o ho⟩
            · refine Nat.lt_of_le_of_ne h1 (fun e=>?_)
              subst e;exact hovA (by simpa using hx)
            · subst e;exact hb.not_row (by decide) (JA HOV) (Eq.symm (by simpa using hx))
          · simp at hx
            subst hx
            exact .inr ⟨by omega,fun _=>by omega,fun o ho=>by rw [show W.heap[_]? = _ from JA HB2] at ho;cases ho;rfl⟩
    · have hy0:y=0:=by omega
      subst hy0
      gi_wp2_with (refine ⟨trivial,?_⟩;refine hTs.mono ?_;clear hTs;rintro e W2 ⟨rfl,hp1,hk2⟩;(have e1:=(QB hIb hk2 (fun hm=>(hF1b _ hm).1 rfl)).cell);(have hb2':=QB (JA HB2) hk2 (fun hm=>(hF1b _ hm).2 rfl));(have ho2:=JB (JA HOV) hk2 hovF);(have hbm2:=hblk.keep hk2 hm1');(have m20:=(hbm2.cell 0).trans (show _=some (Value.pointer (some ⟨p1,0,none⟩)) from rfl));(have m21:=(hbm2.cell 1).trans (show _=some (Value.pointer (some ⟨p2,0,none⟩)) from rfl)))
      have hos4:=hos.keep hk2 hap.symm
      gi_wp2_with (refine ⟨trivial,?_⟩;refine (hTo _ hos4).mono ?_;rintro e W5 ⟨rfl,hp5,hk5⟩)
      have im:=((JA HHB _ _ hp1 hk2).setO hp5 hk5 (by simp) (JA HRO))
      have hb5:=QB hb2' hk5 (fun hm=>by have:=hF2n _ hm;omega)
      have hv5:=JB ho2 hk5 (fun g hg hm=>by have:=hovm g hg;have:=hF2n g hm;omega)
      have hKK:Keep F W W5:=(hk2.sub (fun x hx=>(JA HIM).subB x hx)).trans hk5 (fun x hx => .inl ((JA HIM).subO x hx))
      have hGL:Xn I.bl I.ol (pre.length+1)=gl:=by rw [JA HG,if_neg (by omega),List.append_nil]
      exact JA HPOST _ _ _ (JA HB) (JA HO) hGL _ _ _ _ _ im hb5 hv5 hKK (fun x hx => .inl hx)
 case done=>
  intro D' xs W hD' hS hI hdef
  obtain ⟨bd,od,him⟩:=hI.img
  obtain ⟨ov,hb2,hov⟩:=hI.out
  rw [hS] at him hov
  obtain ⟨gl,hgl⟩:∃ gl,gl=Xn I.bl I.ol I.ol.length:=⟨_,rfl⟩
  rw [← hgl] at hov
  have HGL:=JC hgl
  clear hgl
  obtain ⟨OA,oc,rfl,_⟩:=KB hov
  have hc2:=hb2.cell
  have hf2:=hb2.frozen
  have HI:=JC hI
  have HOV:=JC hov
  have HIM:=JC him
  clear h0 b1 b2 bc kw k1 k2 k3 hw1 hw2 hw3 s1 s2 hseq hI hov him
  gi_wp2
  have hI:=JA HI
  have hov:=JA HOV
  have him:=JA HIM
  have hKs:Keep [w.heap.size+1] W (W.setCell ⟨w.heap.size+1,0,none⟩ (.slice OA gl.length oc)):=(Keep.refl _ _).setCell (p:=⟨w.heap.size+1,0,none⟩) (.inl (by simp)) _
  have hdef2:(W.setCell ⟨w.heap.size+1,0,none⟩ (.slice OA gl.length oc)).heap[D']? = some (.deferred (some [])):=(hKs.block D' (Array.getElem?_eq_some_iff.1 hdef).1 (by simp;omega)).trans hdef
  have q6:=(QD (.deferred none) (hb2.set (.slice OA gl.length oc)) hdef2 rfl).cell
  have hkw:=(hI.keep.trans hKs (fun x hx => .inr (by simp at hx;omega))).putObj (g:=D') (by omega) (.deferred none)
  have hov2:=ownsRow_putObj (own_set hov (fun hm=>hb2.not_row (by decide) hov (Eq.symm (by simpa using hm))) (.slice OA gl.length oc)) (.deferred none) hdef2 rfl
  have him2:=(him.keep hKs (fun x hx hm=>by have:=hlt x hx;simp at hm;omega)).putObj (.deferred none) hdef2 rfl
  refine ⟨by simp,.inl ⟨_,_,rfl,run_takeDeferred hdef2,?_⟩⟩
  refine ⟨.slice OA gl.length oc,?_,_,_,_,rfl,by rw [JA HGL] at hov2 ⊢;exact hov2,⟨_,_,_,_,him2⟩,hkw⟩
  simp [results,Tryz.results260,go_sem,q6]
end
section
open Go.RowKit Go.Shelf
attribute [local go_sem] Oper.semAt_some
def Qn (ol:List Int) (k:Nat):List Int:=(ol.take k).flatMap (fun o=>if 0<ZF o (-1) then [ZF o (-1)] else [])
theorem JAe {ol:List Int} {k:Nat} (hk:k<ol.length):Qn ol (k+1)=Qn ol k++if 0<ZF ol[k] (-1) then [ZF ol[k] (-1)] else []:=by
 unfold Qn
 rw [List.take_succ_eq_append_getElem hk,List.flatMap_append]
 simp
theorem Zl (ol:List Int) (k:Nat):(Qn ol k).length≤k:=by
 unfold Qn
 have:∀ l:List Int,(l.flatMap (fun o=>if 0<ZF o (-1) then [ZF o (-1)] else [])).length≤l.length:=by
  intro l
  induction l with
  | nil=>simp
  | cons p l ih=>
    rw [List.flatMap_cons,List.length_append,List.length_cons]
    have:(if 0<ZF p (-1) then [ZF p (-1)] else []).length≤1:=by split <;> simp
    omega
 refine Nat.le_trans (this _) ?_
 simp;omega
structure KFor (w:World) (base m p1 p2:Nat) (F F1 F2:List Nat) (I:PImage) (pre:List PRnd) (W:World):Prop where
 img:∃ od,ImageIs W base m p1 p2 F F1 F2 ⟨I.bl,I.bd,Jb I.ol pre.length,od⟩
 out:∃ ov,Boxed W (w.heap.size+1) 75 ov∧W.ownsRow w.heap.size 3 1 ov (Qn I.ol pre.length).length (QQ (Qn I.ol pre.length))
 b1:Boxed W w.heap.size 99 (.pointer (some ⟨m,0,none⟩))
 keep:Keep F w W
 few:pre.length≤I.ol.length
theorem KFor.kept {w A B:World} {base m p1 p2:Nat} {F F1 F2:List Nat} {I:PImage} {pre:List PRnd} (h:KFor w base m p1 p2 F F1 F2 I pre A) (hk:Keep [] A B):KFor w base m p1 p2 F F1 F2 I pre B:=by
 obtain ⟨od,h1⟩:=h.img
 obtain ⟨ov,h2,h3⟩:=h.out
 exact ⟨⟨od,h1.keep0 hk⟩,⟨ov,QB h2 hk (by simp),YB h3 hk⟩,QB h.b1 hk (by simp),h.keep.trans0 hk,h.few⟩
theorem KFor.turned {w W:World} {base m p1 p2 k:Nat} {F F1 F2:List Nat} {I:PImage} {pre:List PRnd} {o o':Obj} (h:KFor w base m p1 p2 F F1 F2 I pre W) (hl:w.heap.size≤k) (hg:W.heap[k]? = some o) (ho:o.isCells=false):KFor w base m p1 p2 F F1 F2 I pre (W.putObj k o'):=by
 obtain ⟨od,h1⟩:=h.img
 obtain ⟨ov,h2,h3⟩:=h.out
 exact ⟨⟨od,h1.putObj o' hg ho⟩,⟨ov,QD o' h2 hg ho,ownsRow_putObj h3 o' hg ho⟩,QD o' h.b1 hg ho,h.keep.putObj hl o',h.few⟩
theorem JAd (w:World) (base m:Nat) (F:List Nat) (I:PImage) (h:ImageAt w base m F I) :
 Calls Tryz.prog 63 #[.pointer (some ⟨m,0,none⟩)] w fun e w'=>∃ G od,e = .returned G∧w'.ownsRow w.heap.size 3 1 G (Qn I.ol I.ol.length).length (QQ (Qn I.ol I.ol.length)) ∧
  ImageAt w' base m F ⟨I.bl,I.bd,Jb I.ol I.ol.length,od⟩∧Keep F w w':=by
 obtain ⟨p1,p2,F1,F2,h⟩:=h
 refine (callsIn_wide (n:=3)).1 ?_
 refine callsIn_of_wp_marks Tryz.func63 rfl trivial ?_ rfl
 simp only [Tryz.ntmps63,List.size_toArray,List.length_cons,List.length_nil,Nat.reduceAdd,Nat.reduceSub,Array.replicate_succ,Array.replicate_zero,List.push_toArray,List.append_toArray,List.nil_append,List.cons_append]
 have hT:=fun W (hk:Keep [] w W)=>callsIn_wide (n:=2).2 (XO W base m p1 p2 F F1 F2 I (h.keep0 hk) true)
 gi_wp2_with (first
  | (refine ⟨trivial,?_⟩;refine (hT _ (((Keep.refl _ _).alloc _).alloc _)).mono ?_;rintro e w' ⟨rfl,rfl⟩)
  | (refine ⟨trivial,?_⟩;refine (Zs _ _ _ rfl).mono ?_;rintro e w' ⟨rfl,rfl⟩))
 obtain ⟨w1,hw1⟩:∃ w1,w1=w.alloc (.cells #[.pointer (some ⟨m,0,none⟩)] 99):=⟨_,rfl⟩
 obtain ⟨w2,hw2⟩:∃ w2,w2=w1.alloc (.cells #[.slice none 0 0] 75):=⟨_,rfl⟩
 obtain ⟨w3,hw3⟩:∃ w3,w3=w2.alloc (.cells #[.pointer (some ⟨p2,0,none⟩)] 209):=⟨_,rfl⟩
 rw [← hw1,← hw2,← hw3]
 have s1:w1.heap.size=w.heap.size+1:=by rw [hw1,World.size_alloc]
 have s2:w2.heap.size=w.heap.size+2:=by rw [hw2,World.size_alloc,s1]
 have s3:w3.heap.size=w.heap.size+3:=by rw [hw3,World.size_alloc,s2]
 have k1:Keep [] w w1:=by rw [hw1];exact (Keep.refl _ _).alloc _
 have k2:Keep [] w1 w2:=by rw [hw2];exact (Keep.refl _ _).alloc _
 have k3:Keep [] w2 w3:=by rw [hw3];exact (Keep.refl _ _).alloc _
 have kw:Keep [] w w3:=(k1.trans0 k2).trans0 k3
 have b1:Boxed w3 w.heap.size 99 (.pointer (some ⟨m,0,none⟩)):=QB (by rw [hw1];exact Boxed.new w _ _) (k2.trans0 k3) (by simp)
 have b2:Boxed w3 (w.heap.size+1) 75 (.slice none 0 0):=QB (by rw [hw2,← s1];exact Boxed.new w1 _ _) k3 (by simp)
 have bc:Boxed w3 (w.heap.size+1+1) 209 (.pointer (some ⟨p2,0,none⟩)):=by rw [hw3,show w.heap.size+1+1=w2.heap.size by omega];exact Boxed.new w2 _ _
 have hlen:=h.ok.1
 have h0:KFor w base m p1 p2 F F1 F2 I [] w3:=⟨⟨I.od,by have:=h.keep0 kw;simpa [Jb] using this⟩,⟨_,b2,World.ownsRow_nil _ _ _ _⟩,b1,kw.zero,Nat.zero_le _⟩
 have hlt:=h.lt
 have hseq:=Zx 2 (w.heap.size+1+1) base p2 I.ol.length F2 w3 ⟨I.ol,I.od,rfl,h.o.keep0 kw⟩ bc
 refine JO (n:=3) (gf:=208) (lb:=#[.pointer (some ⟨w.heap.size+1+1,0,none⟩)]) rfl (enters_of Tryz.func208 (by kernel_rfl) rfl)
  hseq
  (fun A B C h k=>⟨fun hb=>k.1 (h.1 hb),fun hb=>k.2 (h.2 hb)⟩)
  (fun W l o o' hl hg' ho=>⟨fun hb=>QD o' hb hg' ho,fun ⟨ls,ds,q1,q2⟩=>⟨ls,ds,q1,q2.putObj o' hg' ho⟩⟩)
  (fun _=>rfl) (KFor w base m p1 p2 F F1 F2 I) (fun s A B h hk=>h.kept hk) (fun s W l o o' h hl hg' ho=>h.turned (by omega) hg' ho)
  (fun pre x W l o o' h hl hg' ho=>⟨h.1,by obtain ⟨ls,ds,q1,q2,q3⟩:=h.2;exact ⟨ls,ds,q1,q2.putObj o' hg' ho,q3⟩⟩) h0
  (fun x=>{ tmps:=#[.pointer (some ⟨m,0,none⟩),.pointer (some ⟨w.heap.size,0,none⟩),.pointer (some ⟨w.heap.size+1,0,none⟩),.int .i64 (x.1:Nat),undef,.pointer (some ⟨m,0,none⟩),.pointer (some ⟨p2,0,none⟩),
    .func (.func 208) #[] #[.pointer (some ⟨w.heap.size+1+1,0,none⟩)],.int .i64 (x.1:Nat),.int .i64 x.2,undef,undef,undef,undef,undef,undef,undef,undef,undef,undef,undef,undef,undef],defers:=[] }) ?assign ?body ?done
 case assign=>
  rintro l ⟨k,z⟩ W K hK
  dsimp only [QT] at hK ⊢
  gi_wp2
  exact hK
 case body=>
  rintro l pre ⟨k,z⟩ W hI ⟨hk,ls,ds,q1,q2,q3⟩
  dsimp only at hk q3 ⊢
  obtain ⟨od,him⟩:=hI.img
  obtain ⟨ov,hb2,hov⟩:=hI.out
  have hzz:=him.o.unique q2
  subst hk
  have hkl:pre.length<I.ol.length:=by rw [← q1];exact (List.getElem?_eq_some_iff.1 q3).1
  have hO:=Zw (k:=pre.length) hkl
  have hG:=JAe (k:=pre.length) hkl
  have hrngO:=Xp (ol:=I.ol) (k:=pre.length+1) h.ok.2.2
  have hOl:(Jb I.ol pre.length).length=I.ol.length:=KV (by omega)
  rw [hO] at hrngO
  have hb2l:=hb2.lt
  have hb1l:=hI.b1.lt
  have hIk:=hI.keep
  have hIb:=hI.b1
  have hF2n:∀ x∈F2,x<w.heap.size:=fun x hx=>hlt x (him.subO x hx)
  have hfoot:=him.foot
  have hsz:=hI.keep.size
  obtain ⟨c0,c1⟩:=him.cells
  have d1:=hI.b1.cell
  have hPost:∀ (gn cO:List Int),Jb I.ol (pre.length+1)=cO→Qn I.ol (pre.length+1)=gn→∀ (W':World) (od':List Bool) (ov':Value) (K:List Nat),ImageIs W' base m p1 p2 F F1 F2 ⟨I.bl,I.bd,cO,od'⟩→Boxed W' (w.heap.size+1) 75 ov' →
   W'.ownsRow w.heap.size 3 1 ov' gn.length (QQ gn)→Keep K W W'→(∀ x∈K,x∈F∨(w.heap.size<x∧(Boxed W (w.heap.size+1+1) 209 (.pointer (some ⟨p2,0,none⟩))→¬ x=w.heap.size+1+1)∧∀ o,W.heap[x]? = some o→o.isCells=true)) →
   KeepsFrom w3.heap.size W W'∧YAF base p2 I.ol.length (w.heap.size+1+1) F2 W W'∧KFor w base m p1 p2 F F1 F2 I (pre++[(pre.length,z)]) W':=by
   intro gn cO eO eG W' od' ov' K g1 g2 g3 hK hKx
   have hsub:∀ x∈K,x≠w.heap.size∧(Boxed W (w.heap.size+1+1) 209 (.pointer (some ⟨p2,0,none⟩))→x≠w.heap.size+1+1):=fun x hx=>by
    rcases hKx x hx with h | h
    · have:=hlt x h;exact ⟨by omega,fun _=>by omega⟩
    · exact ⟨by omega,h.2.1⟩
   refine ⟨hK.fromCells (fun x hx o ho=>?_) _,⟨fun hb=>QB hb hK (fun hm=>(hsub _ hm).2 hb rfl),fun _=>?_⟩,⟨?_,?_,QB hIb hK (fun hm=>(hsub _ hm).1 rfl),?_,by simp;omega⟩⟩
   · rcases hKx x hx with h | h
     · rw [hfoot] at h
       simp only [List.mem_cons,List.mem_append] at h
       rcases h with rfl | h | h
       · rw [show W.heap[_]? = _ from him.blk] at ho;cases ho;rfl
       · exact him.b.isCells x h o ho
       · exact him.o.isCells x h o ho
     · exact h.2.2 o ho
   · refine ⟨_,_,?_,g1.o⟩
     rw [← eO,KV (by omega)]
   · rw [List.length_append,List.length_singleton,eO];exact ⟨_,g1⟩
   · rw [List.length_append,List.length_singleton,eG];exact ⟨_,g2,g3⟩
   · exact hIk.trans hK (fun x hx=>(hKx x hx).imp id (fun h=>by omega))
  have HPOST:=JC hPost
  have HFOOT:=JC hfoot
  have HS3:=JC s3
  obtain ⟨OA,oc,rfl,_⟩:=KB hov
  have HIM:=JC him
  have HB2:=JC hb2
  have HOV:=JC hov
  have hOx:pre.length<(Jb I.ol pre.length).length:=by omega
  have hgl:(Jb I.ol pre.length)[pre.length]=I.ol[pre.length]:=by
   have:=QAE (k:=pre.length) hkl
   rw [List.getElem?_eq_getElem hOx] at this
   exact Option.some.inj this
  have hTs:=callsIn_wide (n:=0).2 (Ku W base p2 F2 _ _ him.o pre.length hOx (-1))
  simp only [hgl] at hTs
  have hor:=h.ok.2.2 _ (List.getElem_mem hkl)
  have hfewI:=him.o.few
  simp only at hfewI
  have hgs:0≤ZF I.ol[pre.length] (-1)∧ZF I.ol[pre.length] (-1)<4096:=KX hor
  have hgc:(Qn I.ol pre.length).length≤64:=by
   have:=Zl I.ol pre.length
   omega
  generalize ZF I.ol[pre.length] (-1)=y at *
  have hos:=him.o
  have hblk:=him.blk
  have hmlt:m<w.heap.size:=hlt m (by rw [him.foot];simp)
  have hm2':=him.m2
  have hPp:=hPost
  clear hPp h0 b1 b2 bc kw k1 k2 k3 hw1 hw2 hw3 s1 s2 s3 hseq hI hPost hfoot hgl hor
  have HRO:=JC hrngO
  clear hrngO
  have HO:=JC hO
  have HG:=JC hG
  clear hO hG
  generalize Qn I.ol pre.length=gl at *
  clear hov hb2
  have hovm:∀ g,(Value.slice OA gl.length oc).ownBlock=some g→w.heap.size≤g:=fun g hg=>(own_mem (JA HOV) (by simpa using hg)).1
  have hovF:∀ g,(Value.slice OA gl.length oc).ownBlock=some g→g∉F2:=fun g hg hm=>by have:=hovm g hg;have:=hF2n g hm;omega
  have hovB:(Value.slice OA gl.length oc).ownBlock≠some (w.heap.size+1):=fun e=>(JA HB2).not_row (by decide) (JA HOV) e.symm
  have hovA:(Value.slice OA gl.length oc).ownBlock≠some w.heap.size:=fun e=>hIb.not_row (by decide) (JA HOV) e.symm
  have hF2b:∀ x∈F2,x≠w.heap.size∧x≠w.heap.size+1:=fun x hx=>by have:=hF2n x hx;omega
  by_cases hy:0<y
  · have hy0:¬ y≤0:=by omega
    gi_wp2_with (first
     | (refine ⟨trivial,?_⟩;refine hTs.mono ?_;clear hTs;rintro e W2 ⟨rfl,hp1,hk2⟩;(have hb2':=QB (JA HB2) hk2 (fun hm=>(hF2b _ hm).2 rfl));(have e2:=hb2'.cell);(have ho2:=JB (JA HOV) hk2 hovF);(have hsz2:=hk2.size))
     | (gi_at_builtin;refine elemIntsN.wpIn_app rfl _ _ rfl w.heap.size _ gl.length (QQ gl) rfl (QE ho2 _) ⟨W2.heap.size,0,none⟩ 1 1 [.int .i64 y] rfl (VO _ _ _) (by simp [Value.oneCell']) (by omega) (by omega) (by simp;omega) ?_;intro v' W3 hv' hk3 hat;(obtain ⟨VA,vc,rfl,_⟩:=KB hv');(have hkA:Keep (Value.slice OA gl.length oc).ownBlock.toList W2 W3:=((Keep.refl _ _).alloc _).trans hk3 (fun x hx => .inl hx));(have hb3:=QB hb2' hkA (by simpa using hovB));(have e3:=hb3.cell);(have f3:=hb3.frozen)))
    have hkS:Keep [w.heap.size+1] W3 (W3.setCell ⟨w.heap.size+1,0,none⟩ (.slice VA (gl.length+1) vc)):=(Keep.refl _ _).setCell (.inl (by simp)) _
    have hFo:Apart F (Value.slice OA gl.length oc).ownBlock.toList:=fun x hx hm=>by have:=hovm x (by simpa using hm);have:=hlt x hx;omega
    have hFB:Apart F [w.heap.size+1]:=fun x hx hm=>by have:=hlt x hx;simp at hm;omega
    have im:=((((JA HIM).setO hp1 hk2 (by simp) (JA HRO)).keep hkA hFo).keep hkS hFB)
    have hb5:=hb3.set (.slice VA (gl.length+1) vc)
    have hv5:=own_set (o:=0) hv' (fun hm=>hb3.not_row (by decide) hv' (Eq.symm (by simpa using hm))) (.slice VA (gl.length+1) vc)
    have hKK:Keep (F++((Value.slice OA gl.length oc).ownBlock.toList++[w.heap.size+1])) W _:=
     ((hk2.sub (fun x hx=>List.mem_append_left _ ((JA HIM).subO x hx))).trans hkA (fun x hx => .inl (by simp at hx;simp [hx]))).trans hkS (fun x hx => .inl (by simp at hx;simp [hx]))
    have hGL:Qn I.ol (pre.length+1)=gl++[y]:=by rw [JA HG,if_pos hy]
    refine JA HPOST _ _ (JA HO) hGL _ _ _ _ im hb5 ?_ hKK ?_
    · rw [List.length_append,List.length_singleton,show QQ (gl++[y])=QQ gl++[.int .i64 y] by simp [QQ,i64]];exact hv5
    · intro x hx
      rcases List.mem_append.1 hx with hx | hx
      · exact .inl hx
      · rcases List.mem_append.1 hx with hx | hx
        · have h1:=hovm x (by simpa using hx)
          refine .inr ⟨?_,fun hb e=>?_,fun o ho=>JP (JA HOV) x hx o ho⟩
          · refine Nat.lt_of_le_of_ne h1 (fun e=>?_)
            subst e;exact hovA (by simpa using hx)
          · subst e;exact hb.not_row (by decide) (JA HOV) (Eq.symm (by simpa using hx))
        · simp at hx
          subst hx
          exact .inr ⟨by omega,fun _=>by omega,fun o ho=>by rw [show W.heap[_]? = _ from JA HB2] at ho;cases ho;rfl⟩
  · have hy0:y=0:=by omega
    subst hy0
    gi_wp2_with (refine ⟨trivial,?_⟩;refine hTs.mono ?_;clear hTs;rintro e W2 ⟨rfl,hp1,hk2⟩;(have hb2':=QB (JA HB2) hk2 (fun hm=>(hF2b _ hm).2 rfl));(have ho2:=JB (JA HOV) hk2 hovF))
    have im:=(JA HIM).setO hp1 hk2 (by simp) (JA HRO)
    have hKK:Keep F W W2:=hk2.sub (fun x hx=>(JA HIM).subO x hx)
    have hGL:Qn I.ol (pre.length+1)=gl:=by rw [JA HG,if_neg (by omega),List.append_nil]
    exact JA HPOST _ _ (JA HO) hGL _ _ _ _ im hb2' ho2 hKK (fun x hx => .inl hx)
 case done=>
  intro D' xs W hD' hS hI hdef
  obtain ⟨od,him⟩:=hI.img
  obtain ⟨ov,hb2,hov⟩:=hI.out
  rw [hS] at him hov
  obtain ⟨gl,hgl⟩:∃ gl,gl=Qn I.ol I.ol.length:=⟨_,rfl⟩
  rw [← hgl] at hov
  have HGL:=JC hgl
  clear hgl
  obtain ⟨OA,oc,rfl,_⟩:=KB hov
  have hc2:=hb2.cell
  have hf2:=hb2.frozen
  have HI:=JC hI
  have HOV:=JC hov
  have HIM:=JC him
  clear h0 b1 b2 bc kw k1 k2 k3 hw1 hw2 hw3 s1 s2 hseq hI hov him
  gi_wp2
  have hI:=JA HI
  have hov:=JA HOV
  have him:=JA HIM
  have hKs:Keep [w.heap.size+1] W (W.setCell ⟨w.heap.size+1,0,none⟩ (.slice OA gl.length oc)):=(Keep.refl _ _).setCell (p:=⟨w.heap.size+1,0,none⟩) (.inl (by simp)) _
  have hdef2:(W.setCell ⟨w.heap.size+1,0,none⟩ (.slice OA gl.length oc)).heap[D']? = some (.deferred (some [])):=(hKs.block D' (Array.getElem?_eq_some_iff.1 hdef).1 (by simp;omega)).trans hdef
  have q6:=(QD (.deferred none) (hb2.set (.slice OA gl.length oc)) hdef2 rfl).cell
  have hkw:=(hI.keep.trans hKs (fun x hx => .inr (by simp at hx;omega))).putObj (g:=D') (by omega) (.deferred none)
  have hov2:=ownsRow_putObj (own_set hov (fun hm=>hb2.not_row (by decide) hov (Eq.symm (by simpa using hm))) (.slice OA gl.length oc)) (.deferred none) hdef2 rfl
  have him2:=(him.keep hKs (fun x hx hm=>by have:=hlt x hx;simp at hm;omega)).putObj (.deferred none) hdef2 rfl
  refine ⟨by simp,.inl ⟨_,_,rfl,run_takeDeferred hdef2,?_⟩⟩
  refine ⟨.slice OA gl.length oc,?_,_,_,rfl,by rw [JA HGL] at hov2 ⊢;exact hov2,⟨_,_,_,_,him2⟩,hkw⟩
  simp [results,Tryz.results63,go_sem,q6]
end
section
open Go.RowKit Go.Shelf
theorem elemBoolE:Elem Tryz.prog 66 4 (.bool false) 1:=Elem.of Tryz.underlying66 (by kernel_rfl) rfl
theorem Yx (w:World) (base p:Nat) (F:List Nat) (l:List Int) (ds:List Bool) (h:PagedAt w base p F l ds) :
 Calls Tryz.prog 219 #[.pointer (some ⟨p,0,none⟩)] w fun e w'=>e = .returned (.tuple #[])∧PagedAt w' base p F l (List.replicate ds.length false)∧Keep F w w':=by
 obtain ⟨L,U,h⟩:=h
 obtain ⟨g,c,u,uc,rfl,rfl,hgu,hpg,hpu⟩:=h.forms
 obtain ⟨c0,c1,c2⟩:=h.cells
 have hF:=h.foot
 obtain ⟨cur,hb,hus,hun,hum,hubs⟩:∃ cur:List Value,Blk w u 4 cur.toArray∧cur.length=uc∧ds.length≤uc∧uc≤9223372036854775807∧base≤u:=by
  rcases h.rd.2 with ⟨he,_⟩ | ⟨g',cap,cur,he,hb,hg,hn,hm,hs,ht⟩
  · cases he
  · cases he
    exact ⟨cur.toList,hg,by simpa using hs,hn,by simpa [maxLen] using hm,hb⟩
 obtain ⟨w',hrun,hb',hk'⟩:=elemBoolE.run_clear w 0 (some ⟨u,0,none⟩) ds.length uc u 0 cur _ hb (fun _=>rfl) (by omega) rfl
 have hres:PagedIs w' base p (.slice (some ⟨g,0,none⟩) l.length c) (.slice (some ⟨u,0,none⟩) ds.length uc) F l (List.replicate ds.length false):=by
  refine ⟨h.blk.keep hk' (by simpa using hpu),JB h.rl hk' (fun x hx=>by simp [Value.ownBlock] at hx;subst hx;simpa using hgu),?_,h.foot,h.base,h.pos,h.few,by rw [List.length_replicate];exact h.pages⟩
  rw [List.length_replicate]
  refine ZZ hb' hubs hun hum (by simp [splice];omega) ?_
  simp [splice,List.take_append_of_le_length]
 have hkk:Keep F w w':=hk'.sub (m:=F) (by rw [hF];simp [Value.ownBlock])
 go_enter Tryz.func219,Tryz.ntmps219
 go_wp2
 go_end0
 exact ⟨rfl,⟨_,_,hres⟩,hkk⟩
theorem Zy (w:World) (base p:Nat) (F:List Nat) (l:List Int) (ds:List Bool) (h:PagedAt w base p F l ds) :
 Calls Tryz.prog 302 #[.pointer (some ⟨p,0,none⟩)] w fun e w'=>e = .returned (.int .i64 (ds.length:Nat))∧w=w':=by
 obtain ⟨L,U,h⟩:=h
 obtain ⟨g,c,u,uc,rfl,rfl,_⟩:=h.forms
 obtain ⟨c0,c1,c2⟩:=h.cells
 go_enter Tryz.func302,Tryz.ntmps302
 go_wp2
 go_ret
 exact ⟨rfl,rfl⟩
theorem KAd (w:World) (base m:Nat) (F:List Nat) (I:PImage) (h:ImageAt w base m F I) :
 Calls Tryz.prog 136 #[.pointer (some ⟨m,0,none⟩)] w fun e w'=>e = .returned (.tuple #[])∧ImageAt w' base m F ⟨I.bl,List.replicate I.bd.length false,I.ol,List.replicate I.od.length false⟩∧Keep F w w':=by
 obtain ⟨p1,p2,F1,F2,h⟩:=h
 have hT1:=XO w base m p1 p2 F F1 F2 I h false
 have hs1:=h.subB
 have hs2:=h.subO
 have hC1:=Yx w base p1 F1 I.bl I.bd h.b
 simp only [Bool.false_eq_true,if_false] at hT1
 go_enter Tryz.func136,Tryz.ntmps136
 go_wp2_with (first
  | (go_at_call 129;refine hT1.mono ?_;clear hT1;rintro e w' ⟨rfl,rfl⟩)
  | (go_at_call 219;refine hC1.mono ?_;clear hC1;rintro e w1 ⟨rfl,hp1,hk1⟩;(have h1:=h.setB hp1 hk1 rfl h.ok.2.1);(have hT2:=XO w1 base m p1 p2 F F1 F2 _ h1 true))
  | (go_at_call 129;refine hT2.mono ?_;clear hT2;rintro e w' ⟨rfl,rfl⟩;(have hC2:=Yx w1 base p2 F2 _ _ h1.o))
  | (go_at_call 219;refine hC2.mono ?_;clear hC2;rintro e w2 ⟨rfl,hp2,hk2⟩))
 go_end0
 exact ⟨rfl,⟨_,_,_,_,h1.setO hp2 hk2 rfl h1.ok.2.2⟩,(hk1.sub hs1).trans (hk2.sub hs2) (fun x hx => .inl hx)⟩
end
end Go.Proofs.YtmoagodllhdemaaGreat
