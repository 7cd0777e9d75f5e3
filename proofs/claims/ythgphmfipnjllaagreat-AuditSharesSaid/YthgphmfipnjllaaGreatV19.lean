/- Lemmas of the proof, with their conditions. -/
import Derived.Test.YthgphmfipnjllaaGreatV10
import Derived.Test.YthgphmfipnjllaaGreatV18
import Derived.Test.YthgphmfipnjllaaGreatV07
namespace Go.Proofs.YthgphmfipnjllaaGreat
set_option linter.unusedSimpArgs false
set_option linter.unusedVariables false
set_option maxHeartbeats 4000000
set_option maxRecDepth 100000
section
open Go.RowKit Go.Shelf
attribute [local go_sem] Oper.semAt_some
theorem PagedIs.putObj {W:World} {base p k:Nat} {L U:Value} {F:List Nat} {l:List Int} {ds:List Bool} {o:Obj} (h:PagedIs W base p L U F l ds) (o':Obj) (hl:W.heap[k]? = some o) (ho:o.isCells=false):PagedIs (W.putObj k o') base p L U F l ds:=
 ⟨JG o' h.blk hl ho,ownsRow_putObj h.rl o' hl ho,ownsRow_putObj h.rd o' hl ho,h.foot,h.base,h.pos,h.few,h.pages⟩
theorem PagedIs.isCells {W:World} {base p:Nat} {L U:Value} {F:List Nat} {l:List Int} {ds:List Bool} (h:PagedIs W base p L U F l ds):∀ g∈F,∀ o,W.heap[g]? = some o→o.isCells=true:=by
 intro g hg o ho
 rw[h.foot] at hg
 simp only[List.mem_cons,List.mem_append] at hg
 rcases hg with rfl | hg | hg
 · rw[show W.heap[_]? = _ from h.blk] at ho;cases ho;rfl
 · exact KK h.rl g hg o ho
 · exact KK h.rd g hg o ho
def Xg (base p n:Nat) (L U:Value) (F:List Nat) (W:World):Prop:=∃ l ds,l.length=n∧PagedIs W base p L U F l ds
abbrev PRnd:=Nat×Int
def VR (x:PRnd):Array Value:=#[.int .i64 (x.1:Nat),.int .i64 x.2]
def XBC (base p n:Nat) (L U:Value) (F:List Nat) (pre:List PRnd) (x:PRnd) (W:World):Prop:=x.1=pre.length∧∃ l ds,l.length=n∧PagedIs W base p L U F l ds∧l[x.1]? = some x.2
def JAs (base p n bc:Nat) (L U:Value) (F:List Nat) (W W':World):Prop:=
 (Boxed W bc 211 (.pointer (some ⟨p,0,none⟩))→Boxed W' bc 211 (.pointer (some ⟨p,0,none⟩)))∧(Xg base p n L U F W→Xg base p n L U F W')
theorem YAW (n:Nat) (v:Value) (w:World) (hv:v.oneCell'=true) :
 CallsIn Fence.wide n Tryz.prog 142 #[v] w fun e w'=>e=.returned (.func (.func 248) #[] #[.pointer (some ⟨w.heap.size,0,none⟩)])∧w'=w.alloc (.cells #[v] 211):=by
 refine(callsIn_wide (n:=n)).2 ?_
 go_enter Tryz.func142,Tryz.ntmps142
 go_wp2
 go_ret
 exact⟨rfl,rfl⟩
theorem VAi (n bc base p m:Nat) (L U:Value) (F:List Nat) (w:World) (hs:Xg base p m L U F w) (hbc:Boxed w bc 211 (.pointer (some ⟨p,0,none⟩))) :
 XBD n Tryz.prog 248 #[.pointer (some ⟨bc,0,none⟩)] VR (XBC base p m L U F) (JAs base p m bc L U F) (fun xs=>xs.length=m) w:=by
 intro l J W hW hJ hY h0
 replace hs:Xg base p m L U F W:=by obtain⟨ls,ds,h1,h2⟩:=hs;exact⟨ls,ds,h1,h2.keep0 hW⟩
 replace hbc:Boxed W bc 211 (.pointer (some ⟨p,0,none⟩)):=(hW.block bc hbc.lt (by simp)).trans hbc
 have hcb:=hbc.cell
 have hm64:1≤m∧m≤64:=by obtain⟨ls,ds,h1,h2⟩:=hs;rw[← h1];exact⟨h2.pos,h2.few⟩
 obtain⟨hm1,hm2⟩:=hm64
 have hT:=callsIn_wide (n:=n-1).2 (show Calls Tryz.prog 242 #[.pointer (some ⟨p,0,none⟩)] W fun e w'=>e=.returned (.int .i64 (m:Nat))∧W=w' from by
  obtain⟨ls,ds,h1,h2⟩:=hs
  have:=LenP_is W base p F ls ds ⟨L,U,h2⟩
  rwa [h1] at this)
 refine callsIn_of_wp Tryz.func248 rfl trivial ?_ rfl
 simp only[Tryz.ntmps248,List.size_toArray,List.length_cons,List.length_nil,Nat.reduceAdd,Nat.reduceSub,Array.replicate_succ,Array.replicate_zero,List.push_toArray,List.append_toArray,List.nil_append,List.cons_append]
 gi_wp2_with (refine⟨trivial,fun h=>by simp[Fence.wide] at h,?_⟩;refine hT.mono ?_;clear hT;rintro e w' ⟨rfl,rfl⟩)
 gi_loopw [3,6] (fun _ i wr=>∃ (k:Nat) (pre:List PRnd),k≤m∧i=.int .i64 (k:Nat)∧J pre wr∧Hid (pre.length=k)∧Xg base p m L U F wr∧Boxed wr bc 211 (.pointer (some ⟨p,0,none⟩)))
  (fun _ i _=>m-(intOf i).toNat)
 case atStart=>exact⟨0,[],Nat.zero_le _,rfl,h0,rfl,hs,hbc⟩
 case round=>
  clear hs hbc h0 hcb
  obtain⟨k,pre,hk,rfl,hJp,hpl,hs,hbc⟩:=hrel
  have hcb:=hbc.cell
  by_cases hlt:k<m
  · have hltI:((k:Nat):Int)<(m:Nat):=by omega
    obtain⟨ls,ds,hll,hP⟩:=hs
    obtain⟨g,c,u,uc,rfl,rfl,_⟩:=hP.forms
    have hc0:=hP.cells.1
    obtain⟨z,hsome⟩:∃ z,ls[k]? = some z:=⟨_,List.getElem?_eq_getElem (by omega)⟩
    have hcx:wr.cell? ⟨g,k,none⟩=some (.int .i64 z):=QK hP.rl (by simp[VS,i64,hsome])
    obtain⟨fn,tmps,assign,body,hy,hR⟩:=hY pre (k,z) wr hJp ⟨(QA hpl).symm,ls,ds,hll,hP,hsome⟩
    dsimp only[VR] at hy
    have HS:Hid (Xg base p m (.slice (some ⟨g,0,none⟩) ls.length c) (.slice (some ⟨u,0,none⟩) ds.length uc) F wr):=ZB ⟨ls,ds,hll,hP⟩
    rw[hll] at hc0
    have HL:=ZB hll
    clear hsome hll hP
    gi_wp2
    refine⟨fun h=>by simp[Fence.wide] at h,hR.mono ?_⟩
    rintro e W3 ⟨rfl,hJ3,hb3,hs3⟩
    have hs4:=hs3 (QA HS)
    clear hy hR hc0 hcx HS hs3
    gi_wp2
    go_roundw
    case rel=>exact⟨k+1,_,by omega,by go_num,hJ3,by show _=_;rw[List.length_append,QA hpl];rfl,hs4,hb3 hbc⟩
    case measure=>simp[intOf];omega
  · obtain rfl:k=m:=by omega
    gi_wp2
    go_end0
    exact⟨⟨_,rfl⟩,pre,QA hpl,hJp⟩
end
section
open Go.RowKit Go.Shelf
attribute [local go_sem] Oper.semAt_some
theorem PagedIs.unique {W:World} {base p:Nat} {L U:Value} {F:List Nat} {l l':List Int} {ds ds':List Bool} (h:PagedIs W base p L U F l ds) (h':PagedIs W base p L U F l' ds'):l=l':=by
 obtain⟨g,c,u,uc,rfl,rfl,_⟩:=h.forms
 obtain⟨g',c',u',uc',e,_⟩:=h'.forms
 injection e with e1 e2 e3
 refine List.ext_getElem e2 fun i h1 h2=>?_
 have a:=Ye h i h1
 obtain⟨b,hb⟩:∃ b,l'[i]? = some b:=⟨_,List.getElem?_eq_getElem h2⟩
 have hr:=h'.rl
 rw[← e2] at hr
 have b:=QK hr (i:=i) (u:=.int .i64 l'[i]) (by simp[VS,i64,h2])
 rw[a] at b
 simpa using b
def QAc (l:List Int):Nat:=l.countP (fun x=>x != -1)
structure KPen (w:World) (B2:Nat) (l:List Int) (pre:List PRnd) (W:World):Prop where
 cnt:Boxed W B2 3 (.int .i64 (QAc (pre.map (·.2)):Nat))
 keep:Keep [] w W
 vals:pre.map (·.2)=l.take pre.length
theorem KPen.kept {w A B:World} {B2:Nat} {l:List Int} {pre:List PRnd} (h:KPen w B2 l pre A) (hk:Keep [] A B):KPen w B2 l pre B:=⟨JA h.cnt hk (by simp),h.keep.trans0 hk,h.vals⟩
theorem KPen.turned {w W:World} {B2 k:Nat} {l:List Int} {pre:List PRnd} {o o':Obj} (h:KPen w B2 l pre W) (hl:w.heap.size≤k) (hg:W.heap[k]? = some o) (ho:o.isCells=false):KPen w B2 l pre (W.putObj k o'):=
 ⟨XC o' h.cnt hg ho,h.keep.putObj hl o',h.vals⟩
end
section
open Go.RowKit Go.Shelf
attribute [local go_sem] Oper.semAt_some
theorem ElemN.wpIn_app {P:Program} {t e:TypeId} {z:Value} {s bytes:Nat} (E:ElemN P t e z s bytes) {F:Fence} {n':Nat} {w:World} {ops:Array Oper} {rest:List Oper} {o:Oper} {a:Act} {Q:Exit→Act→World→Prop} (hgd:o.guard=none) (sl x:Operand)
 (ho:o.op=.call { callee:=.builtin .append,args:=#[sl,x],argTypes:=#[t,t] })
 (base:Nat) (v:Value) (n:Nat) (xs:List Value) (hs:a.eval sl=v) (hown:w.ownsRow base e s v n xs)
 (ad:Addr) (m c:Nat) (news:List Value) (hx:a.eval x=.slice (some ad) m c) (hr:Rd w (some ad) (m*s) news) (h1:∀ u∈news,u.oneCell'=true)
 (h63:n+m≤9223372036854775807) (hbytes:(n+m)*bytes≤140737488355328) (hbase:base≤w.heap.size)
 (h:∀ v' w',w'.ownsRow base e s v' (n+m) (xs++news)→Keep v.ownBlock.toList w w'→(v'.ownBlock=v.ownBlock∨v'.ownBlock=some w.heap.size)→wpListIn F n' P ops Q rest (a.put o.dst v') w'):wpListIn F n' P ops Q (o :: rest) a w:=by
 obtain⟨v',w',hrun,h2,h3,h4,_⟩:=E.run_app w base o.type v n xs hown ad m c news hr h1 h63 hbytes hbase
 refine wpListIn_plain hgd fun K hK=>?_
 refine⟨?_,?_⟩
 · simp[Oper.about,ho,resolve,Target.leads,Sem.run_pure]
 · rw[Oper.semAt_plain F _ _ (by rw[ho];intro c h;cases h)]
   simp only[execOp,ho,resolve,invoke,builtin,Sem.run_bind,Sem.run_pure,Result.andThen_ok,List.map_toArray,List.map_cons,List.map_nil,hs,hx,hrun]
   exact hK _ _ (h v' w' h2 h3 h4)
theorem PagedAt.putObj {W:World} {base p k:Nat} {F:List Nat} {l:List Int} {ds:List Bool} {o:Obj} (h:PagedAt W base p F l ds) (o':Obj) (hl:W.heap[k]? = some o) (ho:o.isCells=false):PagedAt (W.putObj k o') base p F l ds:=by
 obtain⟨L,U,h⟩:=h;exact⟨L,U,h.putObj o' hl ho⟩
theorem PagedAt.unique {W:World} {base p:Nat} {F F':List Nat} {l l':List Int} {ds ds':List Bool} (h:PagedAt W base p F l ds) (h':PagedAt W base p F' l' ds'):l=l':=by
 obtain⟨L,U,h⟩:=h
 obtain⟨L',U',h'⟩:=h'
 have e:L=L'∧U=U':=by
  have h1:=h.cells
  have h2:=h'.cells
  rw[h1.1] at h2
  rw[h1.2.2] at h2
  exact⟨by simpa using h2.1,by simpa using h2.2.2⟩
 obtain⟨rfl,rfl⟩:=e
 have hf:F=F':=h.foot.trans h'.foot.symm
 subst hf
 exact h.unique h'
def QY (base p n:Nat) (F:List Nat) (W:World):Prop:=∃ l ds,l.length=n∧PagedAt W base p F l ds
def ZAu (base p n:Nat) (F:List Nat) (pre:List PRnd) (x:PRnd) (W:World):Prop:=x.1=pre.length∧∃ l ds,l.length=n∧PagedAt W base p F l ds∧l[x.1]? = some x.2
def ZAY (base p n bc:Nat) (F:List Nat) (W W':World):Prop:=
 (Boxed W bc 211 (.pointer (some ⟨p,0,none⟩))→Boxed W' bc 211 (.pointer (some ⟨p,0,none⟩)))∧(QY base p n F W→QY base p n F W')
theorem KAc (n bc base p m:Nat) (F:List Nat) (w:World) (hs:QY base p m F w) (hbc:Boxed w bc 211 (.pointer (some ⟨p,0,none⟩))) :
 XBD n Tryz.prog 248 #[.pointer (some ⟨bc,0,none⟩)] VR (ZAu base p m F) (ZAY base p m bc F) (fun xs=>xs.length=m) w:=by
 intro l J W hW hJ hY h0
 replace hs:QY base p m F W:=by obtain⟨ls,ds,h1,h2⟩:=hs;exact⟨ls,ds,h1,h2.keep0 hW⟩
 replace hbc:Boxed W bc 211 (.pointer (some ⟨p,0,none⟩)):=(hW.block bc hbc.lt (by simp)).trans hbc
 have hcb:=hbc.cell
 have hm64:1≤m∧m≤64:=by obtain⟨ls,ds,h1,h2⟩:=hs;rw[← h1];exact h2.few
 obtain⟨hm1,hm2⟩:=hm64
 have hT:=callsIn_wide (n:=n-1).2 (show Calls Tryz.prog 242 #[.pointer (some ⟨p,0,none⟩)] W fun e w'=>e=.returned (.int .i64 (m:Nat))∧W=w' from by
  obtain⟨ls,ds,h1,h2⟩:=hs
  have:=LenP_is W base p F ls ds h2
  rwa [h1] at this)
 refine callsIn_of_wp Tryz.func248 rfl trivial ?_ rfl
 simp only[Tryz.ntmps248,List.size_toArray,List.length_cons,List.length_nil,Nat.reduceAdd,Nat.reduceSub,Array.replicate_succ,Array.replicate_zero,List.push_toArray,List.append_toArray,List.nil_append,List.cons_append]
 gi_wp2_with (refine⟨trivial,fun h=>by simp[Fence.wide] at h,?_⟩;refine hT.mono ?_;clear hT;rintro e w' ⟨rfl,rfl⟩)
 gi_loopw [3,6] (fun _ i wr=>∃ (k:Nat) (pre:List PRnd),k≤m∧i=.int .i64 (k:Nat)∧J pre wr∧Hid (pre.length=k)∧QY base p m F wr∧Boxed wr bc 211 (.pointer (some ⟨p,0,none⟩)))
  (fun _ i _=>m-(intOf i).toNat)
 case atStart=>exact⟨0,[],Nat.zero_le _,rfl,h0,rfl,hs,hbc⟩
 case round=>
  clear hs hbc h0 hcb
  obtain⟨k,pre,hk,rfl,hJp,hpl,hs,hbc⟩:=hrel
  have hcb:=hbc.cell
  by_cases hlt:k<m
  · have hltI:((k:Nat):Int)<(m:Nat):=by omega
    obtain⟨ls,ds,hll,hP⟩:=hs
    have hPA:=hP
    obtain⟨L,U,hP⟩:=hP
    obtain⟨g,c,u,uc,rfl,rfl,_⟩:=hP.forms
    have hc0:=hP.cells.1
    obtain⟨z,hsome⟩:∃ z,ls[k]? = some z:=⟨_,List.getElem?_eq_getElem (by omega)⟩
    have hcx:wr.cell? ⟨g,k,none⟩=some (.int .i64 z):=QK hP.rl (by simp[VS,i64,hsome])
    obtain⟨fn,tmps,assign,body,hy,hR⟩:=hY pre (k,z) wr hJp ⟨(QA hpl).symm,ls,ds,hll,hPA,hsome⟩
    dsimp only[VR] at hy
    have HS:Hid (QY base p m F wr):=ZB ⟨ls,ds,hll,hPA⟩
    rw[hll] at hc0
    have HL:=ZB hll
    clear hsome hll hP hPA
    gi_wp2
    refine⟨fun h=>by simp[Fence.wide] at h,hR.mono ?_⟩
    rintro e W3 ⟨rfl,hJ3,hb3,hs3⟩
    have hs4:=hs3 (QA HS)
    clear hy hR hc0 hcx HS hs3
    gi_wp2
    go_roundw
    case rel=>exact⟨k+1,_,by omega,by go_num,hJ3,by show _=_;rw[List.length_append,QA hpl];rfl,hs4,hb3 hbc⟩
    case measure=>simp[intOf];omega
  · obtain rfl:k=m:=by omega
    gi_wp2
    go_end0
    exact⟨⟨_,rfl⟩,pre,QA hpl,hJp⟩
end
section
open Go.RowKit Go.Shelf
attribute [local go_sem] Oper.semAt_some
def KeepC (K:List Nat) (W W':World):Prop:=W.heap.size≤W'.heap.size∧∀ k o,k∉K→W.heap[k]? = some o→o.isCells=true→W'.heap[k]? = some o
namespace KeepC
variable {K:List Nat} {A B C:World}
theorem trans (h:KeepC K A B) (k:KeepC K B C):KeepC K A C:=⟨Nat.le_trans h.1 k.1,fun i o hi ho hc=>k.2 i o hi (h.2 i o hi ho hc) hc⟩
theorem putObj (W:World) {l:Nat} {o:Obj} (o':Obj) (hl:W.heap[l]? = some o) (ho:o.isCells=false):KeepC K W (W.putObj l o'):=
 ⟨by rw[World.putObj_size];exact Nat.le_refl _,fun i q _ hq hc=>(World.putObj_heap_other (by rintro rfl;rw[hl] at hq;cases hq;rw[ho] at hc;cases hc)).trans hq⟩
theorem ofKeep {l:List Nat} (h:Keep l A B) (hl:∀ x∈l,x∈K):KeepC K A B:=⟨h.size,fun i o hi ho _=>(h.block i (Array.getElem?_eq_some_iff.1 ho).1 (fun hm=>hi (hl i hm))).trans ho⟩
theorem box {b:Nat} {t:TypeId} {v:Value} (h:KeepC K A B) (hb:Boxed A b t v) (hK:b∉K):Boxed B b t v:=h.2 b _ hK hb rfl
theorem blk {b:Nat} {t:TypeId} {cs:Array Value} (h:KeepC K A B) (hb:Blk A b t cs) (hK:b∉K):Blk B b t cs:=h.2 b _ hK hb rfl
theorem own {base n s:Nat} {e:TypeId} {v:Value} {xs:List Value} (h:KeepC K A B) (hv:A.ownsRow base e s v n xs) (hK:∀ g∈v.ownBlock.toList,g∉K):B.ownsRow base e s v n xs:=by
 refine⟨hv.1,?_⟩
 rcases hv.2 with hv | ⟨g,cap,cur,rfl,hb,hg,r⟩
 · exact .inl hv
 · exact .inr ⟨g,cap,cur,rfl,hb,h.2 g _ (hK g (by simp[Value.ownBlock])) hg rfl,r⟩
theorem paged {base p:Nat} {L U:Value} {F:List Nat} {l:List Int} {ds:List Bool} (h:KeepC K A B) (hp:PagedIs A base p L U F l ds) (hK:∀ g∈F,g∉K):PagedIs B base p L U F l ds:=by
 have hf:=hp.foot
 exact⟨h.blk hp.blk (hK p (by simp[hf])),h.own hp.rl (fun g hg=>hK g (by rw[hf];simp only[List.mem_cons,List.mem_append];exact .inr (.inl hg))),h.own hp.rd (fun g hg=>hK g (by rw[hf];simp only[List.mem_cons,List.mem_append];exact .inr (.inr hg))),hf,hp.base,hp.pos,hp.few,hp.pages⟩
theorem image {base m p1 p2:Nat} {F F1 F2:List Nat} {I:PImage} (h:KeepC K A B) (hp:ImageIs A base m p1 p2 F F1 F2 I) (hK:∀ g∈F,g∉K):ImageIs B base m p1 p2 F F1 F2 I:=by
 obtain⟨L1,U1,q1⟩:=hp.b
 obtain⟨L2,U2,q2⟩:=hp.o
 exact⟨h.blk hp.blk (hK m (by rw[hp.foot];simp)),⟨L1,U1,h.paged q1 (fun g hg=>hK g (hp.subB g hg))⟩,⟨L2,U2,h.paged q2 (fun g hg=>hK g (hp.subO g hg))⟩,hp.apart,hp.m1,hp.m2,hp.foot,hp.base,hp.ok⟩
end KeepC
theorem ImageIs.putObjR {W:World} {base m p1 p2 k:Nat} {F F1 F2:List Nat} {I:PImage} {o:Obj} (h:ImageIs W base m p1 p2 F F1 F2 I) (o':Obj) (hl:W.heap[k]? = some o) (ho:o.isCells=false):ImageIs (W.putObj k o') base m p1 p2 F F1 F2 I:=
 (KeepC.putObj (K:=[]) W o' hl ho).image h (by simp)
theorem KN {n m l l':Nat} {P:Program} {f:FuncId} {tmps:Array Value} {assign body:Code} {w:World} {R:Ending→World→Prop} (h:RoundIn Fence.wide n P l f tmps assign body w R):RoundIn (Fence.wide.inRound l') m P l f tmps assign body w R:=
 ⟨h.1,fun c cs _=>h.2 c cs (room_wide _)⟩
theorem PagedIs.unique_of {W:World} {base p:Nat} {L U L' U':Value} {F F':List Nat} {l l':List Int} {ds ds':List Bool} (h:PagedIs W base p L U F l ds) (h':PagedIs W base p L' U' F' l' ds'):l=l':=by
 have e:=h.blk.symm.trans h'.blk
 simp at e
 obtain⟨rfl,rfl⟩:=e
 have hf:F=F':=h.foot.trans h'.foot.symm
 subst hf
 exact h.unique h'
def KeepR (K:List Nat) (N:Nat) (A B:World):Prop:=KeepC K A B∧KeepsFrom N A B
theorem KeepR.trans {K:List Nat} {N:Nat} {A B C:World} (h:KeepR K N A B) (k:KeepR K N B C):KeepR K N A C:=⟨h.1.trans k.1,Nat.le_trans h.2.size k.2.size,fun i o hi ho hc=>k.2.same i o hi (h.2.same i o hi ho hc) hc⟩
theorem KeepR.putObj {K:List Nat} {N:Nat} {W:World} {l:Nat} {o o':Obj} (hN:l<N) (hl:W.heap[l]? = some o) (ho:o.isCells=false):KeepR K N W (W.putObj l o'):=
 ⟨KeepC.putObj W o' hl ho,by rw[World.putObj_size];exact Nat.le_refl _,fun i q hi hq _=>(World.putObj_heap_other (by omega)).trans hq⟩
def KE (bl ol:List Int):Nat→List PRnd
 | 0=>[]
 | k+1=>KE bl ol k++((if 0<bl.getD k 0 then [(k,bl.getD k 0)] else [])++(if 0<ol.getD k 0 then [(k,ol.getD k 0)] else []))
theorem VAj (n:Nat) (v:Value) (w:World) (hv:v.oneCell'=true) :
 CallsIn Fence.wide n Tryz.prog 61 #[v] w fun e w'=>e=.returned (.func (.func 145) #[] #[.pointer (some ⟨w.heap.size,0,none⟩)])∧w'=w.alloc (.cells #[v] 46):=by
 refine(callsIn_wide (n:=n)).2 ?_
 go_enter Tryz.func61,Tryz.ntmps61
 go_wp2
 go_ret
 exact⟨rfl,rfl⟩
structure KRef (N bm b2 base m p1 p2 l:Nat) (F F1 F2:List Nat) (I:PImage) (J:List PRnd→World→Prop) (pre:List PRnd) (V:World):Prop where
 out:J (KE I.bl I.ol pre.length) V
 img:ImageIs V base m p1 p2 F F1 F2 I
 bm:Boxed V bm 46 (.pointer (some ⟨m,0,none⟩))
 b2:Boxed V b2 101 (.func (.yield l) #[] #[])
 vals:pre.map (·.2)=I.bl.take pre.length
 size:N≤V.heap.size
theorem KRef.kept {N bm b2 base m p1 p2 l:Nat} {F F1 F2:List Nat} {I:PImage} {J:List PRnd→World→Prop} {pre:List PRnd} {A B:World} (h:KRef N bm b2 base m p1 p2 l F F1 F2 I J pre A) (hJ:∀ s A B,J s A→Keep [] A B→J s B) (hk:Keep [] A B):KRef N bm b2 base m p1 p2 l F F1 F2 I J pre B:=
 ⟨hJ _ _ _ h.out hk,h.img.keep0 hk,JA h.bm hk (by simp),JA h.b2 hk (by simp),h.vals,Nat.le_trans h.size hk.size⟩
theorem KRef.turned {N B bm b2 base m p1 p2 l k:Nat} {F F1 F2:List Nat} {I:PImage} {J:List PRnd→World→Prop} {pre:List PRnd} {V:World} {o o':Obj} (h:KRef N bm b2 base m p1 p2 l F F1 F2 I J pre V) (hJt:∀ s,Zq B (J s)) (hl:B≤k) (hg:V.heap[k]? = some o) (ho:o.isCells=false):KRef N bm b2 base m p1 p2 l F F1 F2 I J pre (V.putObj k o'):=
 ⟨hJt _ _ _ _ _ h.out hl hg ho,h.img.putObjR o' hg ho,XC o' h.bm hg ho,XC o' h.b2 hg ho,h.vals,by rw[World.putObj_size];exact h.size⟩
end
section
open Go.RowKit Go.Shelf
attribute [local go_sem] Oper.semAt_some
def YAT (I:PImage) (x:PRnd):Prop:=0<x.2∧(I.bl.getD x.1 0=x.2∨I.ol.getD x.1 0=x.2)
end
section
open Go.RowKit Go.Shelf
attribute [local go_sem] Oper.semAt_some
namespace KeepT
variable {T:List TypeId} {A B:World}
theorem pagedI {base p:Nat} {L U:Value} {F:List Nat} {l:List Int} {ds:List Bool} (h:KeepT T A B) (hp:PagedIs A base p L U F l ds) (t4:311∉T) (t5:3∉T) (t6:4∉T):PagedIs B base p L U F l ds:=
 ⟨h.blk hp.blk t4,h.own hp.rl t5,h.own hp.rd t6,hp.foot,hp.base,hp.pos,hp.few,hp.pages⟩
theorem imageI {base m p1 p2:Nat} {F F1 F2:List Nat} {I:PImage} (h:KeepT T A B) (hp:ImageIs A base m p1 p2 F F1 F2 I) (t4:311∉T) (t5:3∉T) (t6:4∉T) (t7:215∉T):ImageIs B base m p1 p2 F F1 F2 I:=by
 obtain⟨b,⟨L1,U1,h1⟩,⟨L2,U2,h2⟩,a,m1,m2,ft,ba,ok⟩:=hp
 exact⟨h.blk b t7,⟨L1,U1,h.pagedI h1 t4 t5 t6⟩,⟨L2,U2,h.pagedI h2 t4 t5 t6⟩,a,m1,m2,ft,ba,ok⟩
end KeepT
theorem Xe (bl ol:List Int) (k:Nat):(KE bl ol k).length≤2*k:=by
 induction k with
 | zero=>simp[KE]
 | succ k ih=>
   simp only[KE,List.length_append]
   have h1:(if 0<bl.getD k 0 then [(k,bl.getD k 0)] else []).length≤1:=by split <;> simp
   have h2:(if 0<ol.getD k 0 then [(k,ol.getD k 0)] else []).length≤1:=by split <;> simp
   omega
theorem Vr (n bm base m:Nat) (F:List Nat) (I:PImage) (TC:List TypeId) (t1:211∉TC) (t2:101∉TC) (t3:46∉TC) (t4:311∉TC) (t5:3∉TC) (t6:4∉TC) (t7:215∉TC) (w:World) (h:ImageAt w base m F I) (hbm:Boxed w bm 46 (.pointer (some ⟨m,0,none⟩))) :
 KBE n Tryz.prog 145 #[.pointer (some ⟨bm,0,none⟩)] VR (fun pre x _=>YAT I x∧pre.length≤2*I.bl.length) [] [] TC (fun xs _=>xs=KE I.bl I.ol I.bl.length) w:=by
 obtain⟨p1,p2,F1,F2,h⟩:=h
 intro l J W hW hW2 hJT hJt hY h0
 have hJ:∀ s A B,J s A→Keep [] A B→J s B:=fun s A B hj hk=>hJT s A B [] hj hk (by simp)
 have hsz:=hW.size
 replace h:=h.keep0 hW
 replace hbm:Boxed W bm 46 (.pointer (some ⟨m,0,none⟩)):=(hW.block bm hbm.lt (by simp)).trans hbm
 refine callsIn_of_wp_marks Tryz.func145 rfl trivial ?_ rfl
 simp only[Tryz.ntmps145,List.size_toArray,List.length_cons,List.length_nil,Nat.reduceAdd,Nat.reduceSub,Array.replicate_succ,Array.replicate_zero,List.push_toArray,List.append_toArray,List.nil_append,List.cons_append]
 have hcm:=hbm.cell
 have hbml:=hbm.lt
 have hT:=fun W' (hk:Keep [] W W')=>callsIn_wide (n:=n-1).2 (XU W' base m p1 p2 F F1 F2 I (h.keep0 hk) false)
 gi_wp2_with (first
  | (refine⟨trivial,fun h=>by simp[Fence.wide] at h,?_⟩;refine(hT _ ((Keep.refl _ _).alloc _)).mono ?_;rintro e w' ⟨rfl,rfl⟩)
  | (refine⟨trivial,fun h=>by simp[Fence.wide] at h,?_⟩;refine(YAW _ _ _ rfl).mono ?_;rintro e w' ⟨rfl,rfl⟩))
 obtain⟨w1,hw1⟩:∃ w1,w1=W.alloc (.cells #[.func (.yield l) #[] #[]] 101):=⟨_,rfl⟩
 obtain⟨w2,hw2⟩:∃ w2,w2=w1.alloc (.cells #[.pointer (some ⟨p1,0,none⟩)] 211):=⟨_,rfl⟩
 rw[← hw1,← hw2]
 have s1:w1.heap.size=W.heap.size+1:=by rw[hw1,World.size_alloc]
 have s2:w2.heap.size=W.heap.size+2:=by rw[hw2,World.size_alloc,s1]
 have k1:Keep [] W w1:=by rw[hw1];exact(Keep.refl _ _).alloc _
 have k2:Keep [] w1 w2:=by rw[hw2];exact(Keep.refl _ _).alloc _
 have kw:Keep [] W w2:=k1.trans0 k2
 have b2:Boxed w2 W.heap.size 101 (.func (.yield l) #[] #[]):=JA (by rw[hw1];exact Boxed.new W _ _) k2 (by simp)
 have bc:Boxed w2 (W.heap.size+1) 211 (.pointer (some ⟨p1,0,none⟩)):=by rw[hw2,← s1];exact Boxed.new w1 _ _
 have hi0:KRef w2.heap.size bm W.heap.size base m p1 p2 l F F1 F2 I J [] w2:=⟨hJ _ _ _ h0 kw,h.keep0 kw,JA hbm kw (by simp),b2,rfl,Nat.le_refl _⟩
 obtain⟨L,U,hP⟩:=h.b
 have hlt:=h.lt
 have hseq:=VAi (n-1) (W.heap.size+1) base p1 I.bl.length L U F1 w2 ⟨I.bl,I.bd,rfl,hP.keep0 kw⟩ bc
 refine XT (n:=n) (gf:=248) (lb:=#[.pointer (some ⟨W.heap.size+1,0,none⟩)]) rfl (enters_of Tryz.func248 (by kernel_rfl) rfl)
  hseq
  (fun A B C h k=>⟨fun hb=>k.1 (h.1 hb),fun hb=>k.2 (h.2 hb)⟩)
  (fun W l o o' hl hg' ho=>⟨fun hb=>XC o' hb hg' ho,fun⟨ls,ds,q1,q2⟩=>⟨ls,ds,q1,q2.putObj o' hg' ho⟩⟩)
  (fun _=>rfl) (KRef w2.heap.size bm W.heap.size base m p1 p2 l F F1 F2 I J) (fun s A B h hk=>h.kept hJ hk) (fun s V l o o' h hl hg' ho=>h.turned hJt (by omega) hg' ho)
  (fun pre x W l o o' h hl hg' ho=>⟨h.1,by obtain⟨ls,ds,q1,q2,q3⟩:=h.2;exact⟨ls,ds,q1,q2.putObj o' hg' ho,q3⟩⟩) hi0
  (fun x=>{ tmps:=#[.func (.yield l) #[] #[],.pointer (some ⟨bm,0,none⟩),.pointer (some ⟨W.heap.size,0,none⟩),.int .i64 (x.1:Nat),.int .i64 x.2,undef,undef,.pointer (some ⟨m,0,none⟩),.pointer (some ⟨p1,0,none⟩),
    .func (.func 248) #[] #[.pointer (some ⟨W.heap.size+1,0,none⟩)],.int .i64 (x.1:Nat),.int .i64 x.2,undef,undef,undef,undef,undef,undef,undef,undef,undef,undef,undef,undef,undef,undef,undef,undef,undef,undef,undef,undef,undef,undef,undef,undef,undef,undef,undef,undef,undef],defers:=[] }) ?assign ?body ?done
 case assign=>
  rintro l' ⟨k,z⟩ V K' hK
  dsimp only[VR] at hK ⊢
  gi_wp2
  exact hK
 case body=>
  rintro l' pre ⟨k,z⟩ V hI ⟨hk,ls,ds,q1,q2,q3⟩
  dsimp only at hk q3 ⊢
  obtain⟨L1,U1,hPb⟩:=hI.img.b
  have hkl:k<I.ol.length:=by
   have:=(List.getElem?_eq_some_iff.1 q3).1
   rw[← hI.img.ok.1];omega
  have hG:=callsIn_wide (n:=n-1-1-1).2 (Jn V base p2 F2 I.ol I.od hI.img.o k hkl)
  have hcm:=hI.bm.cell
  have hc2:=hI.b2.cell
  have hp2:=hI.img.cells.2
  have hzb0:I.bl.getD k 0=z:=by
   obtain⟨Lb,Ub,hPb'⟩:=hI.img.b
   have q3':=q3
   rw[q2.unique_of hPb'] at q3'
   rw[List.getD_eq_getElem?_getD,q3'];rfl
  have HZB:=ZB hzb0
  clear hzb0
  obtain⟨y,hy⟩:∃ y,y=I.ol[k]:=⟨_,rfl⟩
  rw[← hy] at hG
  have HY:=ZB hy
  have HYO:Hid (I.ol.getD k 0=y):=ZB (by rw[Xm hkl,hy])
  have HI:=ZB hI
  have HLE1:Hid ((KE I.bl I.ol pre.length).length≤2*I.bl.length):=by
   have:=Xe I.bl I.ol pre.length
   have:=hI.img.ok.1
   show _≤_
   omega
  have HLE2:Hid ((KE I.bl I.ol pre.length++[(k,z)]).length≤2*I.bl.length):=by
   have:=Xe I.bl I.ol pre.length
   have:=hI.img.ok.1
   show _≤_
   rw[List.length_append,List.length_singleton]
   omega
  have HK:=ZB hk
  have HQ:=ZB q3
  have HQ1:=ZB q1
  have HQ2:=ZB q2
  clear hi0 b2 bc kw k1 k2 hw1 hw2 hseq hI q3 hy h0 hk q1 q2
  have hI:=QA HI
  have hstep:∀ ys V',J (KE I.bl I.ol pre.length++ys) V'→KeepT TC V V'→ys=((if 0<z then [(k,z)] else [])++(if 0<y then [(k,y)] else [])) →
   XAW w2.heap.size (JAs base p1 I.bl.length (W.heap.size+1) L U F1) (KRef w2.heap.size bm W.heap.size base m p1 p2 l F F1 F2 I J (pre++[(k,z)])) V .normal { tmps:=#[],defers:=[] } V':=fun ys V' hJ' hk' hys=>by
   have hk:=QA HK
   have q3:=QA HQ
   have hsame:ls=I.bl:=by
    obtain⟨Lb,Ub,hPb'⟩:=hI.img.b
    exact(QA HQ2).unique_of hPb'
   rw[hsame] at q3
   have hkl':=(List.getElem?_eq_some_iff.1 q3).1
   have hzb:I.bl.getD k 0=z:=by rw[List.getD_eq_getElem?_getD,q3];rfl
   have hyo:I.ol.getD k 0=y:=by rw[Xm hkl,QA HY]
   refine⟨⟨hk'.size,fun i o hi ho hc=>hk'.same i o ho (fun cs t e=>by subst e;cases hc)⟩,⟨fun hb=>hk'.box hb t1,fun⟨ls',ds',r1,r2⟩=>⟨ls',ds',r1,hk'.pagedI r2 t4 t5 t6⟩⟩,⟨?_,hk'.imageI hI.img t4 t5 t6 t7,hk'.box hI.bm t3,hk'.box hI.b2 t2,?_,Nat.le_trans hI.size hk'.size⟩⟩
   · have e:KE I.bl I.ol (pre.length+1)=KE I.bl I.ol pre.length++ys:=by rw[hys,KE,← hk,hzb,hyo]
     rw[List.length_append,List.length_singleton,e]
     exact hJ'
   · rw[List.map_append,hI.vals,List.length_append,List.length_singleton,← hk,List.take_succ_eq_append_getElem hkl']
     rw[List.getElem?_eq_getElem hkl'] at q3
     rw[show I.bl[k]=z by simpa using q3]
     rfl
  have HST:=ZB hstep
  clear hstep hI
  by_cases hz:0<z
  · by_cases hyp:0<y
    · obtain⟨fn,tmps,assign,body,hy1,hR1⟩:=hY (KE I.bl I.ol pre.length) (k,z) V (QA HI).out ⟨⟨hz,.inl (QA HZB)⟩,QA HLE1⟩
      dsimp only[VR] at hy1
      gi_wp2_with (refine⟨trivial,fun h=>by simp[Fence.wide] at h,?_⟩;refine hG.mono ?_;clear hG;rintro e w' ⟨rfl,rfl⟩)
      refine⟨fun h=>by simp[Fence.wide] at h,(KN hR1).mono ?_⟩
      rintro e V1 ⟨rfl,hJ1,hk1⟩
      obtain⟨fn2,tmps2,assign2,body2,hy2,hR2⟩:=hY (KE I.bl I.ol pre.length++[(k,z)]) (k,y) V1 hJ1 ⟨⟨hyp,.inr (QA HYO)⟩,QA HLE2⟩
      dsimp only[VR] at hy2
      have hb2V:=hk1.box (QA HI).b2 t2
      have hc2':=hb2V.cell
      clear hy1 hR1 hcm hc2 hp2
      gi_wp2
      refine⟨fun h=>by simp[Fence.wide] at h,(KN hR2).mono ?_⟩
      rintro e V2 ⟨rfl,hJ2,hk2⟩
      clear hy2 hR2
      gi_wp2
      exact QA HST ([(k,z)]++[(k,y)]) V2 (by rw[← List.append_assoc];exact hJ2) (hk1.trans hk2) (by rw[if_pos hz,if_pos hyp])
    · obtain⟨fn,tmps,assign,body,hy1,hR1⟩:=hY (KE I.bl I.ol pre.length) (k,z) V (QA HI).out ⟨⟨hz,.inl (QA HZB)⟩,QA HLE1⟩
      dsimp only[VR] at hy1
      gi_wp2_with (refine⟨trivial,fun h=>by simp[Fence.wide] at h,?_⟩;refine hG.mono ?_;clear hG;rintro e w' ⟨rfl,rfl⟩)
      refine⟨fun h=>by simp[Fence.wide] at h,(KN hR1).mono ?_⟩
      rintro e V1 ⟨rfl,hJ1,hk1⟩
      clear hy1 hR1 hcm hc2 hp2
      gi_wp2
      refine⟨fun f h=>(by cases h),?_⟩
      gi_wp2
      exact QA HST [(k,z)] V1 hJ1 hk1 (by rw[if_pos hz,if_neg (by omega)];rfl)
  · by_cases hyp:0<y
    · obtain⟨fn,tmps,assign,body,hy1,hR1⟩:=hY (KE I.bl I.ol pre.length) (k,y) V (QA HI).out ⟨⟨hyp,.inr (QA HYO)⟩,QA HLE1⟩
      dsimp only[VR] at hy1
      gi_wp2_with (refine⟨trivial,fun h=>by simp[Fence.wide] at h,?_⟩;refine hG.mono ?_;clear hG;rintro e w' ⟨rfl,rfl⟩)
      refine⟨fun f h=>(by cases h),?_⟩
      gi_wp2
      refine⟨fun h=>by simp[Fence.wide] at h,(KN hR1).mono ?_⟩
      rintro e V1 ⟨rfl,hJ1,hk1⟩
      clear hy1 hR1 hcm hc2 hp2
      gi_wp2
      exact QA HST [(k,y)] V1 hJ1 hk1 (by rw[if_neg (by omega),if_pos hyp];rfl)
    · gi_wp2_with (refine⟨trivial,fun h=>by simp[Fence.wide] at h,?_⟩;refine hG.mono ?_;clear hG;rintro e w' ⟨rfl,rfl⟩)
      refine⟨fun f h=>(by cases h),?_⟩
      gi_wp2
      rw[← s2]
      exact QA HST [] V (by rw[List.append_nil];exact(QA HI).out) (KeepT.refl V) (by rw[if_neg (by omega),if_neg (by omega)];rfl)
 case done=>
  intro D' xs V hD' hS hI hdef
  have HI:=ZB hI
  clear hi0 b2 bc kw k1 k2 hw1 hw2 hseq hI h0
  gi_wp2
  have hI:=QA HI
  refine⟨by simp,.inl ⟨_,_,rfl,run_takeDeferred hdef,?_⟩⟩
  refine⟨.tuple #[],?_,⟨_,rfl⟩,_,rfl,?_⟩
  · simp[results,Tryz.results145,go_sem]
  · have:=hJt _ _ _ _ (.deferred none) hI.out (by omega) hdef rfl
    rwa [hS] at this
end
end Go.Proofs.YthgphmfipnjllaaGreat
