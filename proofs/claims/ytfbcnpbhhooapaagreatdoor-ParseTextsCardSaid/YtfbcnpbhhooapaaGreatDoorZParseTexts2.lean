/- Parts of a proof, one behind another: Ma21, Ma22, Ma23, Ma24, Ma25, Ma26, Ma27, Ma28, Ma29, Ma30, Ma31, Ma32, Ma37, Ma38, Ma33, Ma34, Ma35, Ma39, B0, Lf0, Lp, Lw, Ty, Rc, Bk1, Bk2. -/
import Derived.Test.YtfbcnpbhhooapaaGreatDoorZParseTexts1
import Derived.WalkSmall
import Derived.Tactics
import Derived.Orders
import Derived.ChangeArms
import Derived.ChangeShapes
import Derived.WideShapes
import Derived.Below
import Derived.RowKit
import Derived.ChangeMaps5
import Derived.Lib.LaidTab
import Derived.Shelf.Strings.OnBuilder
import Derived.Lib.ItoaNum
import Derived.Lib.Small
import Derived.Lib.Repeat
import Derived.Lib.Join
import Derived.Lib.AppendIntMem
import Derived.Sort.Grow
import Derived.Lib.IndexMore
import Derived.Lib.Replace
import Derived.Lib.AtoiAllCases
import Derived.Lib.AtoiErrMem
import Derived.Lib.AtoiAllMem
import Derived.Test.YtfbcnpbhhooapaaGreatDoorProg
import Derived.Recover
import Derived.KernelRfl
import Derived.Tactics2
import Derived.Laws.Pointers
import Derived.RangeFuncNested
import Derived.RangeFuncBound
import Derived.RangeFuncCalls
import Derived.RangeFuncLeaves
import Derived.Shelf.Abstract
import Derived.WalkKit
import Derived.OwnWalkIn
import Derived.TacticsInMore
import Derived.LoopNIn
import Derived.LoopIn
set_option linter.unusedSimpArgs false
set_option linter.unusedVariables false
set_option linter.unusedSectionVars false
set_option maxHeartbeats 4000000
namespace Go.Proofs.YtfbcnpbhhooapaaGreatDoor.M
open Go
section
variable [Base] {g g':Gh} {S S':Sto} {w w':World} {P:Program}
theorem zsJ {ac ac':Ac} (hw:WR g ac.S w) (hne:0 < ac.S.length) {kd:Bool} {d:Nat} {t tx ty e:TypeId} (ht:P.underlying t=some (.slice e)) (hk:(∃ e',P.underlying tx=some (.slice e'))∨P.underlying tx=some .string) {zs:List PV} (hz:cZ P e=some zs)
  {x y:PV} {b c:Value} (hx:VR g x b) (hy:VR g y c) (h:appendP kd d (P.cellsOf e) (P.bytesOf e) x y ac=.ok ac'):∃ u w' g',(Builtin.append_ #[t,tx] ty #[b,c]).run P w=.ok u w'∧Step kd (some d) g ac w ac' u w' g':=by
 obtain⟨i,z,hi,hz',hzs,_,_⟩:=zhc (g:=g) hz
 have e1:P.cellsOf e=i.size:=zaL hi
 have e2:P.bytesOf e=i.bytes:=by simp[Program.bytesOf,hi]
 rw[e1] at hzs
 rw[e1,e2] at h
 unfold appendP at h
 split at h
 ·cases h
 rename_i src hsrc
 obtain⟨news,hs,hse,hnf⟩:=zpP hw hk hy hsrc
 split at h
 ·rename_i z0
  split at h
  ·rename_i hb
   cases hx with | data _ _ hx=>cases hx with | nils _ A =>
   exact zgD hw hne (rows:=[]) (base:=A) (cs:=fun _ _=>undef) (frz:=false) ht hi hz' hzs (by simpa using hb) (fun r hr=>by cases hr) (fun h=>absurd rfl h) (fun _ k _ _ _ _ h=>by simp at h) (fun k _ _ _ h=>by simp at h) (.inr rfl) hs hse hnf h
  cases h
 ·rename_i z0 rows
  split at h
  ·rename_i hb
   obtain⟨hz0,hb⟩:=hb
   subst hz0
   cases hx with | data _ _ hx=>cases hx with | list _ _ _ A cap cs hl hf hs' hA hc hv =>
   obtain rfl:=hf rfl
   exact zgD hw hne (rows:=rows) (base:=A) (cs:=cs) (frz:=true) ht hi hz' hzs hb hs' hA hc hv (.inl rfl) hs hse hnf h
  cases h
 ·rename_i n k off len ver gen full
  split at h
  ·cases h
  rename_i R hR
  split at h
  ·rename_i hcur
   obtain⟨hg1,hg2,hg3,hb⟩:=hcur
   cases hx with
   | data _ _ hx=>cases hx
   | sl _ _ _ _ _ _ _ ai _ hai hle h1c hsl =>
    obtain⟨R',hR',hr⟩:=hw.arr n k ai hai
    obtain rfl:R=R':=Option.some.inj (hR.symm.trans hR')
    obtain⟨A,cap,rfl,sa⟩:=hsl (hr.gen.trans hg1) (hr.len.trans hg2)
    split at h
    ·rename_i hfull
     subst hfull
     obtain⟨g1,w1,x1,t1,a1,hc1⟩:=hw.freeze hR hai
     have hcap:=sa.whole rfl
     subst hcap
     have hfit:off+cap≤R.rows.length:=by rw[←hr.len];exact sa.fits
     have hlen:((R.rows.drop off).take cap).length=cap:=by rw[List.length_take,List.length_drop];omega
     have hget:∀ p row,((R.rows.drop off).take cap)[p]?=some row→R.rows[off+p]?=some row∧p < cap:=by
      intro p row hp
      rw[List.getElem?_take] at hp
      split at hp
      ·rename_i hlt
       rw[List.getElem?_drop] at hp
       exact⟨hp,hlt⟩
      cases hp
     have haddr:0 < cap→∃ ad,ai.A=some ad∧ad.spot=none∧A=some ⟨ad.block,ad.off+off*R.sz,none⟩:=by
      intro hp
      obtain⟨ad,q1,q2,q3⟩:=sa.pos hp
      exact⟨ad,q1,q2,by rw[q3,hr.sz]⟩
     have hnf1:∀ p j row v,src[p]?=some row→row[j]?=some v→∃ u,news[p*i.size+j]?=some u∧FR g1.fz v u:=fun p j row v h1 h2=>by
      obtain⟨u,q1,q2⟩:=hnf p j row v h1 h2
      exact⟨u,q1,q2.mono x1.fz⟩
     have:=zgD (g:=g1) (w:=w) (P:=P) (ty:=ty) (tx:=tx) w1 (by rw[zaU];exact hne) (rows:=(R.rows.drop off).take cap) (base:=A) (frz:=true) (cs:=fun p j=>match ai.A with | some ad=>(g1.fz ad.block (ad.off+((off+p)*R.sz+j))).getD undef | none=>undef) ht hi hz' hzs (by rw[hlen];exact hb) (fun r hr'=>by rw[←hg3];exact hr.each r (List.mem_of_mem_drop (List.mem_of_mem_take hr')))
      (fun hne'=>by
       have hp:0 < cap:=by
        rcases Nat.eq_zero_or_pos cap with h0 | h0
        ·subst h0;simp at hne'
        exact h0
       obtain⟨ad,_,_,q3⟩:=haddr hp
       exact⟨_,q3,rfl⟩)
      (fun ad p j row v had hp hj=>by
       obtain⟨hp',hlt⟩:=hget p row hp
       obtain⟨ad',q1,q2,q3⟩:=haddr (by omega)
       rw[had] at q3
       obtain rfl:=Option.some.inj q3
       obtain⟨u,u1,_⟩:=hc1 ad' (off+p) j row v q1 hp' hj
       simp only[q1]
       rw[u1,←hg3]
       rw[show ad'.off+off*R.sz+(p*R.sz+j)=ad'.off+((off+p)*R.sz+j) by rw[Nat.add_mul];omega]
       exact u1)
      (fun p j row v hp hj=>by
       obtain⟨hp',hlt⟩:=hget p row hp
       obtain⟨ad',q1,q2,q3⟩:=haddr (by omega)
       obtain⟨u,u1,u2⟩:=hc1 ad' (off+p) j row v q1 hp' hj
       simp only[q1]
       rw[u1]
       exact u2) (.inl rfl) hs hse hnf1 (t:=t) h
     rw[hlen] at this
     obtain⟨u,w2,g2,hrun,hst⟩:=this
     exact⟨u,w2,g2,hrun,hst.behind x1 t1 rfl (zaU _ _ _ _)⟩
    rename_i hfull
    have hff:full=false:=by simpa using hfull
    subst hff
    split at h
    ·rename_i hc
     obtain⟨rfl,rfl,_⟩:=hc
     cases h
     have hcap:=sa.open_ rfl (by rw[hr.len,hg2]) rfl
     have hA:=sa.zero rfl
     subst hA hcap
     subst hg1 hg2
     have:=zoz (kd:=kd) (d:=d) (ty:=ty) hw ht hi hz' hzs hR hai hg3 hb hs hse hnf rfl
     rw[hr.len] at this
     exact this
    cases h
  cases h
 cases h
def Rows (g:Gh) (sz:Nat) (rows:List (List PV)) (cells:Array Value):Prop:=cells.size=rows.length*sz∧(∀ r ∈ rows,r.length=sz)∧∀ i j row v,rows[i]?=some row→row[j]?=some v→FR g.fz v (cells.getD (i*sz+j) undef)
theorem zp2 {vs:List PV} {f:Nat→Value} (hp:allPure vs=true) (h:∀ i v,vs[i]?=some v→VR g v (f i)):∀ i v,vs[i]?=some v→FR g.fz v (f i):=fun i v hi=>(h i v hi).pure_FR (List.all_eq_true.1 hp v (List.mem_of_getElem? hi))
theorem Rows.mono {sz:Nat} {rows:List (List PV)} {cells:Array Value} (hx:Ext g g') (h:Rows g sz rows cells):Rows g' sz rows cells:=⟨h.1,h.2.1,fun i j row v hi hj=>(h.2.2 i j row v hi hj).mono hx.fz⟩
theorem zl1 {e:TypeId}:∀ (parts:List (Nat × Operand)) (ps:List (Nat × X)) (rows rows':List (List PV)) (S S':Sto) (g:Gh) (cells:Array Value) (ac:Ac) (a:Act),zhC P e parts=some ps→WR g S w→(∀ t,VR g (ac.e t) (a.eval (.tmp t)))→Rows g (P.cellsOf e) rows cells→rowsP S ac.ev (P.cellsOf e) rows ps=some (rows',S') →
  ∃ g' cells',WR g' S' w∧Ext g g'∧Tr g w g' w∧Rows g' (P.cellsOf e) rows' cells'∧Instr.fill (fun i=>some (i*P.cellsOf e,P.cellsOf e)) cells (parts.map fun (i,x)=>(i,a.eval x))=some cells'∧S'.length=S.length∧rows'.length=rows.length
 | [],ps,rows,rows',S,S',g,cells,ac,a,hc,hw,he,hr,h=>by
  simp only[zhC,Option.some.injEq] at hc
  subst hc
  simp only[rowsP,Option.some.injEq,Prod.mk.injEq] at h
  obtain⟨rfl,rfl⟩:=h
  exact⟨g,cells,hw,Ext.refl _,Tr.refl _ _,hr,rfl,rfl,rfl⟩
 | (i,x)::r,ps,rows,rows',S,S',g,cells,ac,a,hc,hw,he,hr,h=>by
  simp only[zhC] at hc
  split at hc
  ·rename_i x' r' hx hr'
   obtain rfl:=Option.some.inj hc
   simp only[rowsP] at h
   split at h
   ·rename_i vs S1 hh
    split at h
    ·rename_i hcnd
     obtain⟨h1,h2,h3⟩:=hcnd
     have hev:VR g (ac.ev x') (a.eval x):=Rel.ev (P:=P) (w:=w) (ac:={ ac with S:=S }) ⟨hw,he⟩ hx
     have hone:(ac.ev x').one=true∨∃ vs,ac.ev x'=.agg vs:=by
      cases hq:ac.ev x' <;> first | exact .inl rfl | exact .inr ⟨_,rfl⟩ | skip
      all_goals
       rw[hq] at hh
       simp only[PV.cells,handL,hand1,Option.some.injEq,Prod.mk.injEq] at hh
       obtain⟨rfl,_⟩:=hh
       simp[allPure,PV.pure] at h2
     have hcl:=hev.cells_ hone
     obtain⟨g1,w1,x1,t1,l1,r1⟩:=zg5 (ac.ev x').cells vs S S1 g (fun i=>(a.eval x).cells.getD i Go.undef) hw hcl.2 hh
     have hfr:=zp2 h2 r1
     have hsz:(a.eval x).cells.size=P.cellsOf e:=by rw[←hcl.1,←l1,h1]
     obtain⟨f1,f2⟩:=zn4 cells (a.eval x).cells (i*P.cellsOf e)
     have hfit:(i+1)*P.cellsOf e≤rows.length*P.cellsOf e:=Nat.mul_le_mul_right _ h3
     rw[Nat.add_mul,Nat.one_mul] at hfit
     have hrows:Rows g1 (P.cellsOf e) (rows.set i vs) ((a.eval x).cells.zipIdx.foldl (fun cs (c,j)=>cs.setIfInBounds (i*P.cellsOf e+j) c) cells):=by
      refine⟨by rw[f1,hr.1];simp,fun r' hr''=>?_,fun p j row v hp hj=>?_⟩
      ·rcases List.mem_or_eq_of_mem_set hr'' with h | h
       ·exact hr.2.1 r' h
       rw[h];exact h1
      rw[Array.getD_eq_getD_getElem?,f2 _ (by rw[hr.1];omega)]
      by_cases ep:p=i
      ·subst ep
       rw[List.getElem?_set_self h3] at hp
       obtain rfl:=Option.some.inj hp
       have hj':=(List.getElem?_eq_some_iff.1 hj).1
       rw[if_pos ⟨by omega,by omega⟩]
       have:=hfr j v hj
       rw[Array.getD_eq_getD_getElem?] at this
       rwa [show p*P.cellsOf e+j - p*P.cellsOf e=j by omega]
      rw[List.getElem?_set_ne (Ne.symm ep)] at hp
      have hj':j < P.cellsOf e:=by rw[←hr.2.1 row (List.mem_of_getElem? hp)];exact (List.getElem?_eq_some_iff.1 hj).1
      have:=hr.2.2 p j row v hp hj
      rw[Array.getD_eq_getD_getElem?] at this
      rw[if_neg]
      ·exact this.mono x1.fz
      intro hh
      rcases Nat.lt_or_ge p i with h | h
      ·have:(p+1)*P.cellsOf e≤i*P.cellsOf e:=Nat.mul_le_mul_right _ h
       rw[Nat.add_mul,Nat.one_mul] at this
       omega
      have h':i+1≤p:=by omega
      have:(i+1)*P.cellsOf e≤p*P.cellsOf e:=Nat.mul_le_mul_right _ h'
      rw[Nat.add_mul,Nat.one_mul] at this
      omega
     obtain⟨g2,cells',w2,x2,t2,r2,q2,l2,l3⟩:=zl1 r r' _ rows' S1 S' g1 _ ac a hr' w1 (fun t=>(he t).mono x1) hrows h
     refine⟨g2,cells',w2,x1.trans x2,t1.trans t2,r2,?_,l2.trans (zea _ _ _ _ hh),l3.trans (by simp)⟩
     simp only[List.map_cons,Instr.fill]
     rw[if_neg (by simp[hsz,hr.1];omega)]
     exact q2
    cases h
   cases h
  cases hc
end
section
variable [Base] {g g':Gh} {S S':Sto} {w w':World} {P:Program}
theorem zu9 {o:Oper} {z:Nat} (h:cOp P o=some (.nilv z)):∃ x,o.op=.assign x∧zck x=true:=by
  obtain⟨dst,op,ty,pos,after,guard⟩:=o
  cases op <;> simp only[cOp,reduceCtorEq,Option.map_eq_some_iff] at h
  case assign x =>
    refine⟨x,rfl,?_⟩
    split at h
    ·assumption
    rw[Option.map_eq_some_iff] at h
    obtain⟨_,_,h⟩:=h
    cases h
  case call c =>
    unfold zdq at h
    repeat' split at h
    all_goals cases h
  all_goals first
    | (obtain⟨_,_,h⟩:=h;cases h;done)
    | (repeat' split at h
       all_goals first | (cases h;done) | (rw[Option.map_eq_some_iff] at h;obtain⟨_,_,h⟩:=h;cases h))
theorem zq8 {o:Oper} {z:List PV} (h:cOp P o=some (.alloc z)):∃ t,o.op=.alloc t∧cZ P t=some z:=by
  obtain⟨dst,op,ty,pos,after,guard⟩:=o
  cases op <;> simp only[cOp,reduceCtorEq,Option.map_eq_some_iff] at h
  case alloc t =>
    obtain⟨z',h1,h2⟩:=h
    cases h2
    exact⟨t,rfl,h1⟩
  case call c =>
    unfold zdq at h
    repeat' split at h
    all_goals cases h
  all_goals first
    | (obtain⟨_,_,h⟩:=h;cases h;done)
    | (repeat' split at h
       all_goals first | (cases h;done) | (rw[Option.map_eq_some_iff] at h;obtain⟨_,_,h⟩:=h;cases h))
theorem zv7 {o:Oper} {x:X} (h:cOp P o=some (.box x)):∃ t y,o.op=.box t y∧cX P 0 y=some x:=by
  obtain⟨dst,op,ty,pos,after,guard⟩:=o
  cases op <;> simp only[cOp,reduceCtorEq,Option.map_eq_some_iff] at h
  case box t y =>
    obtain⟨z',h1,h2⟩:=h
    cases h2
    exact⟨t,y,rfl,h1⟩
  case call c =>
    unfold zdq at h
    repeat' split at h
    all_goals cases h
  all_goals first
    | (obtain⟨_,_,h⟩:=h;cases h;done)
    | (repeat' split at h
       all_goals first | (cases h;done) | (rw[Option.map_eq_some_iff] at h;obtain⟨_,_,h⟩:=h;cases h))
theorem zqs {o:Oper} {sz n:Nat} {z:List PV} {ps:List (Nat × X)} (h:cOp P o=some (.bslice sz n z ps)):∃ t e parts,o.op=.buildSlice t n parts∧P.underlying t=some (.slice e)∧sz=P.cellsOf e∧n*P.cellsOf e≤2 ^ 24∧P.cellsOf e≠0∧(n=0→parts.toList=[])∧cZ P e=some z∧zhC P e parts.toList=some ps:=by
  obtain⟨dst,op,ty,pos,after,guard⟩:=o
  cases op <;> simp only[cOp,reduceCtorEq,Option.map_eq_some_iff] at h
  case buildSlice t n' parts =>
    split at h
    ·rename_i e ht
     split at h
     ·rename_i hc
      split at h
      ·rename_i z' ps' h1 h2
       cases h
       exact⟨t,e,parts,rfl,ht,rfl,hc.1,hc.2.1,hc.2.2,h1,h2⟩
      cases h
     cases h
    cases h
  case call c =>
    unfold zdq at h
    repeat' split at h
    all_goals cases h
  all_goals first
    | (obtain⟨_,_,h⟩:=h;cases h;done)
    | (repeat' split at h
       all_goals first | (cases h;done) | (rw[Option.map_eq_some_iff] at h;obtain⟨_,_,h⟩:=h;cases h))
theorem zsP {o:Oper} {k:Nat} {x v:X} (h:cOp P o=some (.store k x v)):∃ t y u k',o.op=.store t y u∧kOf P t=some k'∧k=k'.getD 1∧cX P 0 y=some x∧cX P t u=some v:=by
  obtain⟨dst,op,ty,pos,after,guard⟩:=o
  cases op <;> simp only[cOp,reduceCtorEq,Option.map_eq_some_iff] at h
  case store t y u =>
    split at h
    ·rename_i k' x' v' h1 h2 h3
     cases h
     exact⟨t,y,u,k',rfl,h1,rfl,h2,h3⟩
    cases h
  case call c =>
    unfold zdq at h
    repeat' split at h
    all_goals cases h
  all_goals first
    | (obtain⟨_,_,h⟩:=h;cases h;done)
    | (repeat' split at h
       all_goals first | (cases h;done) | (rw[Option.map_eq_some_iff] at h;obtain⟨_,_,h⟩:=h;cases h))
theorem zAQ {o:Oper} {v:VO} (h:cOp P o=some (.w v)):False:=by
  obtain⟨dst,op,ty,pos,after,guard⟩:=o
  cases op <;> simp only[cOp,reduceCtorEq,Option.map_eq_some_iff] at h
  case call c =>
    unfold zdq at h
    repeat' split at h
    all_goals cases h
  all_goals first
    | (obtain⟨_,_,h⟩:=h;cases h;done)
    | ((repeat' split at h) <;> first | (cases h;done) | (simp only[Option.map_eq_some_iff] at h;obtain⟨_,_,h⟩:=h;cases h;done))
theorem zsg {o:Oper} {x:X} (h:cOp P o=some (.panic x)):∃ y,o.op=.panic y∧cX P 0 y=some x:=by
  obtain⟨dst,op,ty,pos,after,guard⟩:=o
  cases op <;> simp only[cOp,reduceCtorEq,Option.map_eq_some_iff] at h
  case panic y =>
    obtain⟨z',h1,h2⟩:=h
    cases h2
    exact⟨y,rfl,h1⟩
  case call c =>
    unfold zdq at h
    repeat' split at h
    all_goals cases h
  all_goals first
    | (obtain⟨_,_,h⟩:=h;cases h;done)
    | (repeat' split at h
       all_goals first | (cases h;done) | (rw[Option.map_eq_some_iff] at h;obtain⟨_,_,h⟩:=h;cases h))
theorem zqD {o:Oper} {sz bytes:Nat} {x y:X} (h:cOp P o=some (.append sz bytes x y)):∃ c a b t u e z,o.op=.call c∧c.callee=.builtin .append∧c.args=#[a,b]∧c.argTypes=#[t,u]∧P.underlying t=some (.slice e)∧((∃ e',P.underlying u=some (.slice e'))∨P.underlying u=some .string)∧sz=P.cellsOf e∧bytes=P.bytesOf e∧cZ P e=some z∧cX P t a=some x∧cX P u b=some y:=by
  obtain⟨dst,op,ty,pos,after,guard⟩:=o
  cases op <;> simp only[cOp,reduceCtorEq,Option.map_eq_some_iff] at h
  case call c =>
    unfold zdq at h
    split at h
    ·split at h <;> cases h
    ·repeat' split at h
     all_goals cases h
    ·rename_i hcal
     split at h
     ·rename_i a b t u hargs htys
      have e1:c.args=#[a,b]:=by apply Array.ext';simpa using hargs
      have e2:c.argTypes=#[t,u]:=by apply Array.ext';simpa using htys
      split at h
      ·rename_i e x' y' ht hu hx hy
       split at h
       ·rename_i hc
        cases h
        obtain⟨z,hz⟩:=Option.isSome_iff_exists.1 hc.2
        exact⟨c,a,b,t,u,e,z,rfl,hcal,e1,e2,ht,.inr hu,rfl,rfl,hz,hx,hy⟩
       cases h
      ·rename_i e e' x' y' ht hu hx hy
       split at h
       ·rename_i hc
        cases h
        obtain⟨z,hz⟩:=Option.isSome_iff_exists.1 hc.2
        exact⟨c,a,b,t,u,e,z,rfl,hcal,e1,e2,ht,.inl ⟨e',hu⟩,rfl,rfl,hz,hx,hy⟩
       cases h
      cases h
     cases h
    ·repeat' split at h
     all_goals cases h
    ·repeat' split at h
     all_goals cases h
    cases h
  all_goals first
    | (obtain⟨_,_,h⟩:=h;cases h;done)
    | (repeat' split at h
       all_goals first | (cases h;done) | (rw[Option.map_eq_some_iff] at h;obtain⟨_,_,h⟩:=h;cases h))
theorem zuM {o:Oper} {f:X} {xs:List X} (h:cOp P o=some (.call f xs)):∃ c y,o.op=.call c∧c.callee=.value y∧cX P 0 y=some f∧cXs P c.args.toList c.argTypes.toList=some xs:=by
  obtain⟨dst,op,ty,pos,after,guard⟩:=o
  cases op <;> simp only[cOp,reduceCtorEq,Option.map_eq_some_iff] at h
  case call c =>
    unfold zdq at h
    split at h
    ·rename_i y hcal
     split at h
     ·rename_i f' xs' h1 h2
      cases h
      exact⟨c,y,rfl,hcal,h1,h2⟩
     cases h
    ·repeat' split at h
     all_goals cases h
    ·repeat' split at h
     all_goals cases h
    ·repeat' split at h
     all_goals cases h
    ·repeat' split at h
     all_goals cases h
    cases h
  all_goals first
    | (obtain⟨_,_,h⟩:=h;cases h;done)
    | (repeat' split at h
       all_goals first | (cases h;done) | (rw[Option.map_eq_some_iff] at h;obtain⟨_,_,h⟩:=h;cases h))
end
section
variable [Base] {g g':Gh} {S S':Sto} {w w':World} {P:Program}
def OpRes (P:Program) (o:Oper) (kd:Bool) (g:Gh) (ac:Ac) (w:World) (a:Act):OO→Prop
 | .ok ac'=>∀ (K:Act→World→Prop) (Q:Exit→Act→World→Prop),(∀ c w' g',Step kd o.dst g ac w ac' c w' g'→K (a.put o.dst c) w')→o.wp P a w K Q
 | .pan v S=>∀ (K:Act→World→Prop) (Q:Exit→Act→World→Prop),(∀ c w' g',WR g' S w'→VR g' v c→Ext g g'→Tr g w g' w'→S.length=ac.S.length→Q (.panic [{ v:=c,recovered:=false }]) a w')→o.wp P a w K Q
 | .bad=>True
theorem zie {s:Sem Value} {c:Value} (h:s.run P w=.ok c w'):(do pure (Next.value (← s)):Sem Next).run P w=.ok (.value c) w':=by simp[h]
theorem OpRes.value {o:Oper} {kd:Bool} {ac ac':Ac} {a:Act} {c:Value} (hrun:(execOp a.eval o).run P w=.ok (.value c) w') (hst:Step kd o.dst g ac w ac' c w' g'):OpRes P o kd g ac w a (.ok ac'):=fun K Q h=>by
 unfold Oper.wp
 rw[hrun]
 exact h c w' g' hst
theorem OpRes.skip {o:Oper} {kd:Bool} {ac ac':Ac} {a:Act} (hrun:(execOp a.eval o).run P w=.ok .skip w') (hst:Step kd o.dst g ac w ac' Go.undef w' g'):OpRes P o kd g ac w a (.ok ac'):=fun K Q h=>by
 unfold Oper.wp
 rw[hrun]
 exact h _ w' g' hst
theorem zbT {kd:Bool} {d:Option Nat} {ac:Ac} {v:PV} {c:Value} (h1:WR g' S' w') (hx:Ext g g') (ht:Tr g w g' w') (hv:VR g' v c) (hl:S'.length=ac.S.length):Step kd d g ac w (({ ac with S:=S' }:Ac).put d v) c w' g':=by
 cases d with
 | none=>exact⟨h1,ht,(fun t ht=>by cases ht),fun t _ u hu=>hu.mono hx,fun _=>⟨hx.toExw,fun _ _=>rfl,fun t _ hb=>hx.nam 0 t hb⟩,hl⟩
 | some d =>
  refine⟨h1,ht,fun t ht=>?_,fun t ht u hu=>?_,fun _=>⟨hx.toExw,fun t ht=>?_,fun t _ hb=>hx.nam 0 t hb⟩,hl⟩
  ·obtain rfl:=Option.some.inj ht
   simp only[Ac.put,upd,if_true]
   exact hv
  ·have:t≠d:=fun e=>ht (by rw[e])
   simp only[Ac.put,upd,if_neg this]
   exact hu.mono hx
  have:t≠d:=fun e=>ht (by rw[e])
  simp only[Ac.put,upd,if_neg this]
theorem WR.fzMore (hw:WR g S w) {φ:Fz} (hφ:∀ b o v,φ b o=some v→w.cell? ⟨b,o,none⟩=some v) (hsub:∀ b o v,g.fz b o=some v→φ b o=some v) (ho:∀ x b,g.own x=some b→∀ o,φ b o=g.fz b o) :
  WR ⟨g.b,g.a,φ⟩ S w∧Ext g ⟨g.b,g.a,φ⟩:=by
 have hx:Ext g ⟨g.b,g.a,φ⟩:=⟨⟨fun _ _ _ h=>h,fun _ _ ai h=>⟨ai,h,AIle.refl _⟩,hsub⟩,fun _ _ h=>h⟩
 refine⟨⟨hw.ok.sub fun x k h=>⟨x,by cases x <;> exact h⟩,hφ,?_,?_,hw.inj⟩,hx⟩
 ·intro n t b hb
  obtain⟨vs,cs,elem,h1,h2,h3,h4,h5⟩:=hw.box n t b hb
  exact⟨vs,cs,elem,h1,h2,h3,fun i v hi=>(h4 i v hi).mono hx,fun o=>(ho (.box n t) b hb o).trans (h5 o)⟩
 intro n k ai ha
 obtain⟨A,h1,hr⟩:=hw.arr n k ai ha
 refine⟨A,h1,⟨hr.sz,hr.len,hr.gen,hr.each,hr.cap,hr.addr,?_,?_,hr.free⟩⟩
 ·obtain⟨cs,h2,h3⟩:=hr.cells
  exact⟨cs,fun i j row v hi hj=>(h2 i j row v hi hj).mono hsub,fun ad i j row v had hi hj=>⟨(h3 ad i j row v had hi hj).1,fun hf=>hsub _ _ _ ((h3 ad i j row v had hi hj).2 hf)⟩⟩
 intro b hb
 obtain⟨h2,h3,h4,h5⟩:=hr.own b hb
 have hown:=ho (.arr n k) b (by simp only[Gh.own];rw[show g.a n k=some ai from ha];exact hb)
 exact⟨h2,h3,fun o hle=>(hown o).trans (h4 o hle),fun hf o=>(hown o).trans (h5 hf o)⟩
theorem zqW (hw:WR g S w) (cells:Array Value) (e:TypeId):∃ g',WR g' S (w.alloc (.cells cells e))∧Ext g g'∧Tr g w g' (w.alloc (.cells cells e))∧∀ (o:Nat) (v:Value),cells[o]?=some v→g'.fz w.heap.size o=some v:=by
 have h0:=hw.alloc (.cells cells e)
 have hcell:∀ o,(w.alloc (.cells cells e)).cell? ⟨w.heap.size,o,none⟩=cells[o]?:=by
  intro o
  unfold World.cell?
  rw[ziE]
  rfl
 obtain⟨h1,h2⟩:=h0.fzMore (φ:=fun b o=>if b=w.heap.size then cells[o]? else g.fz b o) (fun b o v h=>by
  split at h
  ·rename_i e
   subst e
   rw[hcell]
   exact h
  ·exact h0.fz b o v h) (fun b o v h=>by
  rw[if_neg]
  ·exact h
  ·rintro rfl
   rw[hw.fz_new] at h
   cases h) (fun x b h o=>by
  rw[if_neg]
  rintro rfl
  exact absurd (hw.own_lt h) (Nat.lt_irrefl _))
 refine⟨_,h1,h2,⟨rfl,rfl,rfl,by rw[zch];omega,h2.fz,fun k hk _=>zbj w _ hk,fun x k h=>.inl h,h2.pop_⟩,fun o v h=>?_⟩
 dsimp only
 rw[if_pos rfl]
 exact h
theorem zhv (d:Nat) (cs:List PV) (S:Sto) (n t:Nat):getBox (newBox d cs S) n t=if n=0∧t=d∧0 < S.length then some (initC d 0 cs) else getBox S n t:=by
 cases S with
 | nil=>cases n <;> simp[newBox,getBox]
 | cons f S=>cases n <;> simp[newBox,getBox,upd]
theorem zfK (d:Nat) (cs:List PV) (S:Sto) (n:Nat) (k:AK) (h:n=0→∀ j,k≠.cell d j):getArr (newBox d cs S) n k=getArr S n k:=by
 cases S with
 | nil=>cases n <;> simp[newBox,getArr]
 | cons f S =>
  cases n with
  | succ n=>simp[newBox,getArr]
  | zero=>simp only[newBox,getArr];exact zgr d cs 0 f.arr k fun j _=>h rfl j
theorem zp1 (d:Nat) (cs:List PV) (S:Sto) (hS:0 < S.length) (j z:Nat) (h:cs[j]?=some (.nils z)):getArr (newBox d cs S) 0 (.cell d j)=some ⟨z,[],false,0⟩:=by
 cases S with
 | nil=>exact absurd hS (Nat.lt_irrefl _)
 | cons f S =>
  simp only[newBox,getArr]
  have:=zlI d cs 0 f.arr j z h
  rwa [Nat.zero_add] at this
theorem zfa (d:Nat) (cs:List PV) (S:Sto):(newBox d cs S).length=S.length:=by cases S <;> rfl
theorem znR {ac:Ac} (hw:WR g ac.S w) (hne:0 < ac.S.length) {kd:Bool} {d:Nat} {vs:List PV} {cs:Array Value} (hc:Cells (g.kill d) vs cs) (e:TypeId) (hk:kd=true) :
  ∃ g',Step kd (some d) g ac w ⟨upd (zdy d ac.e) d (.ptr 0 d 0),newBox d vs (killS d ac.S)⟩ (.pointer (some ⟨w.heap.size,0,none⟩)) (w.alloc (.cells cs e)) g':=by
 subst hk
 have hl:0 < (killS d ac.S).length:=by rw[za8];exact hne
 obtain⟨g',w1,x1,t1,b1,n1⟩:=zvo (S':=newBox d vs (killS d ac.S)) (hw.kill d) (zg4 g d) (fun i=>zfL g rfl) hc e (by rw[zhv,if_pos ⟨rfl,rfl,hl⟩]) (fun j z h=>zp1 d vs _ hl j z h) (fun m t b hb=>by
  rw[zhv,if_neg]
  rintro ⟨rfl,rfl,_⟩
  rw[zg4] at hb
  cases hb) (fun m k ai ha=>by
  apply zfK
  rintro rfl j rfl
  have:=zfL g (d:=d) (k:=.cell d j) rfl
  rw[this] at ha
  cases ha)
 refine⟨g',w1,(Tr.kill g w d).trans t1,fun t ht=>?_,fun t ht u hu=>?_,fun h=>(by cases h),by rw[zfa,za8]⟩
 ·obtain rfl:=Option.some.inj ht
  simp only[upd,if_true]
  exact .ptr _ _ _ _ b1
 have:t≠d:=fun e=>ht (by rw[e])
 simp only[upd,if_neg this,zdy]
 exact (hu.kill d).monow x1
theorem Cells.kill {vs:List PV} {cs:Array Value} (h:Cells g vs cs) (d:Nat):Cells (g.kill d) (PV.killL d vs) cs:=by
 refine⟨by rw[zbs];exact h.1,fun i v hi=>?_⟩
 rw[zcY,Option.map_eq_some_iff] at hi
 obtain⟨u,hu,rfl⟩:=hi
 exact (h.2 i u hu).kill d
theorem zqf {t:TypeId} {i:TypeInfo} {v:Value} (hi:P.info? t=some i) (hz:i.zero=some v) (o:Value) (w:World):(Instr.alloc t true o).run P w=.ok (.pointer (some ⟨w.heap.size,0,none⟩)) (w.alloc (.cells v.cells t)):=by
 simp[Instr.alloc,zeroValue,typeInfo,hi,hz,newVar,newRow]
theorem zt4 (t:TypeId) (v:Value) (w:World):(Instr.box t v).run P w=.ok (.pointer (some ⟨w.heap.size,0,none⟩)) (w.alloc (.cells v.cells t)):=by
 simp[Instr.box,newVar,newRow]
theorem zmw {t e:TypeId} {ie:TypeInfo} (ht:P.underlying t=some (.slice e)) (hi:P.info? e=some ie) (w:World):(Instr.buildSlice t 0 #[]).run P w=.ok (.slice (some ⟨w.heap.size,0,none⟩) 0 0) (w.alloc (.cells #[] e)):=by
 simp[Instr.buildSlice,run_underlying ht,Go.sizeOf,typeInfo,hi,Instr.fill,newRow]
 have:(Array.range 0)=(#[]:Array Nat):=by apply Array.ext';simp
 rw[this]
 simp
theorem zsh {e:TypeId} {zs:List PV} {v:Value} (n:Nat) (hz:zs.length=P.cellsOf e) (h1:v.cells.size=P.cellsOf e) (h:∀ j p,zs[j]?=some p→FR g.fz p (v.cells.getD j Go.undef)):Rows g (P.cellsOf e) (List.replicate n zs) ((Array.range (n*P.cellsOf e)).map (v.cells[· % v.cells.size]!)):=by
 refine⟨by simp,fun r hr=>?_,fun i j row p hi hj=>?_⟩
 ·rw[List.eq_of_mem_replicate hr];exact hz
 obtain rfl:=List.eq_of_mem_replicate (List.mem_of_getElem? hi)
 have hj':j < P.cellsOf e:=by rw[←hz];exact (List.getElem?_eq_some_iff.1 hj).1
 have hi':i < n:=by have:=(List.getElem?_eq_some_iff.1 hi).1;simpa using this
 have hlt:=zcj hi' hj'
 have e1:(i*P.cellsOf e+j) % v.cells.size=j:=by rw[h1,Nat.mul_comm,Nat.mul_add_mod,Nat.mod_eq_of_lt hj']
 have:((Array.range (n*P.cellsOf e)).map (v.cells[· % v.cells.size]!)).getD (i*P.cellsOf e+j) Go.undef=v.cells.getD j Go.undef:=by
  rw[Array.getD_eq_getD_getElem?]
  simp only[Array.getElem?_map,Array.getElem?_range,if_pos hlt,Option.map_some,Option.getD_some,e1]
  rw[Array.getD_eq_getD_getElem?,getElem!_pos v.cells j (by omega),Array.getElem?_eq_getElem (by omega:j < v.cells.size)]
  rfl
 rw[this]
 exact h j p hj
theorem zrK {t e:TypeId} {n:Nat} {parts:Array (Nat × Operand)} {z:List PV} {ps:List (Nat × X)} (ht:P.underlying t=some (.slice e)) (hsm:n*P.cellsOf e≤2 ^ 24) (h0:P.cellsOf e≠0) (hz:cZ P e=some z) (hps:zhC P e parts.toList=some ps) (hn:n≠0)
  {ac:Ac} {a:Act} (hr:Rel g ac a w) {kd:Bool} {d:Option Nat} {rows:List (List PV)} (h:rowsP ac.S ac.ev (P.cellsOf e) (List.replicate n z) ps=some (rows,S')) :
  ∃ c w' g',(Instr.buildSlice t n (parts.map fun (i,x)=>(i,a.eval x))).run P w=.ok c w'∧Step kd d g ac w (({ ac with S:=S' }:Ac).put d (.list (P.cellsOf e) rows true)) c w' g':=by
 obtain⟨i,v,hi,hv,hsz,hcl,hfr⟩:=zhc (g:=g) hz
 have e1:P.cellsOf e=i.size:=zaL hi
 have hzl:z.length=P.cellsOf e:=hcl.1.trans hsz
 obtain⟨g1,cells,w1,x1,t1,r1,hfill,l1,l2⟩:=zl1 parts.toList ps (List.replicate n z) rows ac.S S' g _ ac a hps hr.wr hr.env (zsh n hzl hsz hfr) h
 obtain⟨g2,w2,x2,t2,f2⟩:=zqW w1 cells e
 have hrl:rows.length=n:=by rw[l2];simp
 have hpos:n*P.cellsOf e≠0:=Nat.mul_ne_zero hn h0
 refine⟨_,_,g2,run_buildSlice w t e n _ cells i v ht hi hv (by rw[←e1];omega) (by rw[←e1];exact hpos) (by rw[Array.toList_map,←e1];exact hfill),zbT w2 (x1.trans x2) (t1.trans t2) ?_ l1⟩
 obtain⟨q1,q2,q3⟩:=r1
 rw[show (Value.slice (some ⟨w.heap.size,0,none⟩) n n)=.slice (some ⟨w.heap.size,0,none⟩) rows.length n by rw[hrl]]
 refine .data _ _ (.list (P.cellsOf e) rows true _ n (fun i j=>cells.getD (i*P.cellsOf e+j) Go.undef) (by omega) (fun _=>hrl.symm) q2 (fun _=>⟨_,rfl,rfl⟩) (fun ad i j row v had hi hj=>?_) (fun i j row v hi hj=>(q3 i j row v hi hj).mono x2.fz))
 obtain rfl:=Option.some.inj had
 have hj':j < P.cellsOf e:=by rw[←q2 row (List.mem_of_getElem? hi)];exact (List.getElem?_eq_some_iff.1 hj).1
 have hlt:=zcj (List.getElem?_eq_some_iff.1 hi).1 hj'
 rw[Nat.zero_add]
 apply f2
 rw[Array.getD_eq_getD_getElem?,Array.getElem?_eq_getElem (by rw[q1];exact hlt)]
 rfl
theorem zra {t:Nat} {v:PV} {c:Value} (h:VR g (.iface t v) c):∃ u,c=.iface t u:=by
 cases h with
 | data _ _ h=>cases h with | iface _ _ u h=>exact⟨u,rfl⟩
 | iface _ _ u h=>exact⟨u,rfl⟩
theorem zAd {cl:zi} {o:Oper} {op:SOp} (hc:cOp P o=some op) {kd:Bool} {ac:Ac} {a:Act} (hr:Rel g ac a w) (hne:0 < ac.S.length) (hfree:kd=false→∀ d z,o.dst=some d→op=.alloc z→za1 g 0 d)
  (hcall:∀ f xs,op=.call f xs→OpRes P o kd g ac w a (callP cl kd o.dst (ac.ev f) (xs.map ac.ev) ac)):OpRes P o kd g ac w a (ex cl kd o.dst op ac):=by
 cases op with
 | v vo =>
  simp only[ex]
  split
  ·rename_i v hv
   obtain⟨c,hrun,hvr⟩:=zzK hc hr hv
   exact .value hrun (zbT hr.wr (Ext.refl g) (Tr.refl g w) hvr rfl)
  trivial
 | w vo=>exact (zAQ hc).elim
 | nilv sz =>
  obtain⟨x,ho,hx⟩:=zu9 hc
  simp only[ex]
  cases hd:o.dst with
  | none=>trivial
  | some d =>
   simp only
   cases hn:newArr kd d ⟨sz,[],false,0⟩ ac with
   | bad=>trivial
   | pan v S=>unfold newArr at hn;split at hn <;> first | cases hn | (split at hn <;> cases hn)
   | ok ac' =>
    obtain⟨g',hst⟩:=zgw (w':=w) (c:=.slice none 0 0) hr.wr hne (fun g0 S0 w0 hfz hn hl=>by
     obtain⟨g',w1,x1,t1,a1⟩:=zkc w0 (n:=0) (k:=.slot d) (A:=⟨sz,[],false,0⟩) (a:=none) (cap:=0) (cs:=fun _ _=>Go.undef) rfl (fun r hr=>by cases hr) (fun h=>absurd rfl h) (fun ad k j row v h1=>by cases h1) (fun k j row v h1=>by simp at h1) (.inr rfl) hl (fun ai0 h0=>by rw[hn] at h0;cases h0) zjj
     refine⟨g',w1,x1,?_,_,a1,rfl,rfl,rfl,fun h=>absurd rfl h,Nat.le_refl _⟩
     exact t1) hn
    have hrun:(execOp a.eval o).run P w=.ok (.value (.slice none 0 0)) w:=by
     unfold execOp
     rw[ho]
     cases x with
     | const v =>
      cases v <;> try cases hx
      rename_i A n c
      cases A with
      | some _=>cases hx
      | none =>
       cases n with
       | succ _=>cases hx
       | zero=>cases c with
        | succ _=>cases hx
        | zero=>rfl
     | _=>cases hx
    rw[←hd] at hst
    exact .value hrun hst
 | alloc zero =>
  obtain⟨t,ho,hz⟩:=zq8 hc
  obtain⟨i,v,hi,hv,hsz,_,_⟩:=zhc (g:=g) hz
  have hrun:(execOp a.eval o).run P w=.ok (.value (.pointer (some ⟨w.heap.size,0,none⟩))) (w.alloc (.cells v.cells t)):=by
   unfold execOp
   rw[ho]
   exact zie (zqf hi hv _ w)
  simp only[ex]
  cases hd:o.dst with
  | none=>trivial
  | some d =>
   simp only
   split
   ·rename_i hk
    obtain⟨_,v',_,hv',_,hcl,_⟩:=zhc (g:=g.kill d) hz
    have hcl':Cells (g.kill d) zero v.cells:=by
     obtain⟨i2,v2,hi2,hv2,_,hcl2,_⟩:=zhc (g:=g.kill d) hz
     rw[hi] at hi2
     obtain rfl:=Option.some.inj hi2
     rw[hv] at hv2
     obtain rfl:=Option.some.inj hv2
     exact hcl2
    obtain⟨g',hst⟩:=znR hr.wr hne hcl' t hk
    rw[←hd] at hst
    exact .value hrun hst
   rename_i hk
   split
   ·rename_i hq
    have hb:=hfree (by simpa using hk) d zero hd rfl
    obtain⟨i2,v2,hi2,hv2,_,hcl2,_⟩:=zhc (g:=g) hz
    rw[hi] at hi2
    obtain rfl:=Option.some.inj hi2
    rw[hv] at hv2
    obtain rfl:=Option.some.inj hv2
    obtain⟨g',w1,x1,t1,b1,n1⟩:=zvo (S':=ac.S) hr.wr hb.1 hb.2 hcl2 t hq.1 (fun j z hj=>by
     have:=zpB d zero 0 _ hq.2 j z hj
     rwa [Nat.zero_add] at this) (fun _ _ _ _=>rfl) (fun _ _ _ _=>rfl)
    refine .value hrun (g':=g') ?_
    rw[hd]
    refine⟨w1,t1,fun t ht=>?_,fun t ht u hu=>?_,fun _=>⟨x1,fun t ht=>?_,fun t ht hb=>n1 t (fun e=>ht (by rw[e])) hb⟩,rfl⟩
    ·obtain rfl:=Option.some.inj ht
     simp only[Ac.put,upd,if_true]
     exact .ptr _ _ _ _ b1
    ·have:t≠d:=fun e=>ht (by rw[e])
     simp only[Ac.put,upd,if_neg this]
     exact hu.monow x1
    have:t≠d:=fun e=>ht (by rw[e])
    simp only[Ac.put,upd,if_neg this]
   trivial
 | box x =>
  obtain⟨t,y,ho,hx⟩:=zv7 hc
  have hrun:(execOp a.eval o).run P w=.ok (.value (.pointer (some ⟨w.heap.size,0,none⟩))) (w.alloc (.cells (a.eval y).cells t)):=by
   unfold execOp
   rw[ho]
   exact zie (zt4 t _ w)
  simp only[ex]
  cases hd:o.dst with
  | none=>trivial
  | some d =>
   simp only
   split
   ·rename_i hk
    have hcl:=((hr.ev hx).cells_ (zf5 hk.2)).kill d
    obtain⟨g',hst⟩:=znR hr.wr hne hcl t hk.1
    rw[←hd] at hst
    exact .value hrun hst
   trivial
 | bslice sz n zero parts =>
  obtain⟨t,e,ps,ho,ht,rfl,hsm,h0,hn0,hz,hps⟩:=zqs hc
  simp only[ex]
  split
  ·rename_i hn
   subst hn
   obtain⟨i,v,hi,_⟩:=zhc (g:=g) hz
   have hps0:ps=#[]:=by apply Array.ext';simpa using hn0 rfl
   subst hps0
   have hrun:(execOp a.eval o).run P w=.ok (.value (.slice (some ⟨w.heap.size,0,none⟩) 0 0)) (w.alloc (.cells #[] e)):=by
    unfold execOp
    rw[ho]
    simp only[List.map_toArray,List.map_nil]
    exact zie (zmw ht hi w)
   have:=hr.wr.alloc (.cells #[] e)
   refine .value hrun (zbT (S':=ac.S) this (Ext.refl g) ⟨rfl,rfl,rfl,by rw[zch];omega,fun _ _ _ h=>h,fun k hk _=>zbj w _ hk,fun x k h=>.inl h,Ext.refl _⟩ (.data _ _ (.nils _ _)) rfl)
  rename_i hn
  split
  ·rename_i rows S1 h
   obtain⟨c,w',g',hrun,hst⟩:=zrK ht hsm h0 hz hps hn hr h (kd:=kd) (d:=o.dst)
   refine .value (g':=g') (c:=c) (w':=w') ?_ hst
   unfold execOp
   rw[ho]
   exact zie hrun
  trivial
 | store k x v =>
  obtain⟨t,y,u,k',ho,hk,rfl,hx,hv⟩:=zsP hc
  simp only[ex]
  split
  ·rename_i S1 hd hs
   obtain⟨w',g',hrun,w1,x1,t1,l1⟩:=zop hr.wr hk (hr.ev hx) (hr.ev hv) hs
   refine .skip (g':=g') (w':=w') ?_ ?_
   ·unfold execOp
    rw[ho]
    simp[hrun]
   rw[hd]
   exact zbT (d:=none) (v:=.undef) w1 x1 t1 .undef l1
  trivial
 | append sz bytes x y =>
  obtain⟨c,p,q,t,u,e,z,ho,hcal,hargs,htys,ht,hu,rfl,rfl,hz,hx,hy⟩:=zqD hc
  simp only[ex]
  cases hd:o.dst with
  | none=>trivial
  | some d =>
   simp only
   cases hn:appendP kd d (P.cellsOf e) (P.bytesOf e) (ac.ev x) (ac.ev y) ac with
   | bad=>trivial
   | pan v S =>
    exfalso
    unfold appendP newArr at hn
    repeat' split at hn
    all_goals cases hn
   | ok ac' =>
    obtain⟨v,w',g',hrun,hst⟩:=zsJ (ty:=o.type) hr.wr hne ht hu hz (hr.ev hx) (hr.ev hy) hn
    rw[←hd] at hst
    refine .value (g':=g') (c:=v) (w':=w') ?_ hst
    unfold execOp
    rw[ho]
    simp only[resolve,hcal,hargs,htys,Sem.run_bind,Sem.run_pure,Result.andThen_ok,invoke,builtin,List.map_toArray,List.map_cons,List.map_nil]
    rw[hrun]
    simp
 | call f xs=>exact hcall f xs rfl
 | panic x =>
  obtain⟨y,ho,hx⟩:=zsg hc
  simp only[ex]
  split
  ·rename_i t v hv
   intro K Q h
   have hvr:=hr.ev hx
   rw[hv] at hvr
   obtain⟨u,hu⟩:=zra hvr
   have hrun:(execOp a.eval o).run P w=.halt (.panic (.iface t u)) w:=by
    unfold execOp
    rw[ho]
    simp[hu,run_panic_iface]
   unfold Oper.wp
   rw[hrun]
   exact h _ w g hr.wr (by rw[←hu];exact hvr) (Ext.refl g) (Tr.refl g w) rfl
  trivial
end
section
variable [Base] {g g':Gh} {S S':Sto} {w w':World} {P:Program}
def Answers (P:Program) (f:FuncId) (args:Array Value) (w:World) (R:Ending→World→Prop):Prop :=
 ((callFunc f args).run P w=.ok (.enter f args) w∧Calls P f args w R)∨∃ c w',(callFunc f args).run P w=.ok (.value c) w'∧R (.returned c) w'
def zvk (g':Gh) (w':World) (n0:Nat):Ret→Value→Prop
 | .v x,c=>VR g' x c
 | .arr sz rows frz,c=>∃ ai,ArrRel g' w' ⟨sz,rows,frz,0⟩ ai∧c=.slice ai.A ai.len ai.cap∧∀ b,ai.blk=some b→n0≤b∧∀ x,g'.own x≠some b
def zap (g:Gh) (S:Sto) (w:World):CO→Ending→World→Prop
 | .ok r S',.returned c,w'=>∃ g',WR g' S' w'∧Ext g g'∧Tr g w g' w'∧zvk g' w' w.heap.size r c∧S'.length=S.length
 | .pan v S',.panicked ch,w'=>∃ g' c,ch=[{ v:=c,recovered:=false }]∧WR g' S' w'∧VR g' v c∧Ext g g'∧Tr g w g' w'∧S'.length=S.length
 | _,_,_=>False
def zcG (g:Gh) (args:List PV) (cs:Array Value):Prop:=args.length=cs.size∧∀ i v,args[i]?=some v→VR g v (cs.getD i Go.undef)
def zak (P:Program) (cl:zi):Prop:=∀ f args S,cl f args S≠.bad→∀ g w cs,WR g S w→zcG g args cs→Answers P f cs w (zap g S w (cl f args S))
theorem Answers.wp {f:FuncId} {cs:Array Value} {R:Ending→World→Prop} (h:Answers P f cs w R) {o:Oper} {a:Act} {K:Act→World→Prop} {Q:Exit→Act→World→Prop} (he:(execOp a.eval o).run P w=(callFunc f cs).run P w)
  (h1:∀ c w',R (.returned c) w'→K (a.put o.dst c) w') (h2:∀ ch w',R (.panicked ch) w'→Q (.panic ch) a w') (h3:∀ w',¬ R .outgrown w'):o.wp P a w K Q:=by
 unfold Oper.wp
 rw[he]
 rcases h with⟨h,hc⟩ | ⟨c,w',h,hR⟩
 ·rw[h]
  refine hc.mono fun e w' hR=>?_
  cases e with
  | returned v=>exact h1 v w' hR
  | panicked ch=>exact h2 ch w' hR
  | outgrown=>exact absurd hR (h3 w')
 rw[h]
 exact h1 c w' hR
theorem zqM {v:PV} {c:Value} {φ:Fz} (h:VR g v c) (hp:v.cells.all PV.pure=true) (hf:g.fz=φ):VR ⟨fun _ _=>none,fun _ _=>none,φ⟩ v c:=by
 subst hf
 by_cases hv:∃ vs,v=.agg vs
 ·obtain⟨vs,rfl⟩:=hv
  obtain⟨cs,rfl,h1,h2⟩:=h.agg_inv
  exact .agg vs cs h1 fun i u hi=>.data _ _ ((h2 i u hi).pure_FR (List.all_eq_true.1 hp u (List.mem_of_getElem? hi)))
 have:v.cells=[v]:=by cases v <;> first | rfl | exact absurd ⟨_,rfl⟩ hv
 rw[this] at hp
 exact .data _ _ (h.pure_FR (by simpa using hp))
theorem FR.plain {fz fz':Fz} {v:PV} {c:Value} (h:FR fz v c):v.plain=true→FR fz' v c:=by
 induction h with
 | bool b=>exact fun _=>.bool b
 | int k n=>exact fun _=>.int k n
 | str s=>exact fun _=>.str s
 | nils z A=>intro h;simp[PV.plain] at h
 | list z rows full A cap cs hl hf hs hA hc hv ih=>intro h;simp[PV.plain] at h
 | func f=>intro h;simp[PV.plain] at h
 | iface t v c _ ih=>intro h;exact .iface t v c (ih (by simpa [PV.plain] using h))
 | nili=>exact fun _=>.nili
 | nilf=>exact fun _=>.nilf
 | nilp=>exact fun _=>.nilp
theorem zhA:∀ (vs:List PV),PV.plainL vs=true→∀ (i:Nat) (v:PV),vs[i]?=some v→v.plain=true
 | [],_,i,v,h=>by simp at h
 | u::vs,h,i,v,hi=>by
  simp only[PV.plainL,Bool.and_eq_true] at h
  cases i with
  | zero=>simp at hi;subst hi;exact h.1
  | succ i=>exact zhA vs h.2 i v (by simpa using hi)
theorem VR.plain {v:PV} {c:Value} (h:VR g v c):v.plain=true→VR g' v c:=by
 induction h with
 | data v c h=>exact fun hp=>.data _ _ (h.plain hp)
 | agg vs cs hl _ ih=>exact fun hp=>.agg vs cs hl fun i v hi=>ih i v hi (zhA vs (by simpa [PV.plain] using hp) i v hi)
 | tup vs cs hl _ ih=>exact fun hp=>.tup vs cs hl fun i v hi=>ih i v hi (zhA vs (by simpa [PV.plain] using hp) i v hi)
 | iface t v c _ ih=>exact fun hp=>.iface t v c (ih (by simpa [PV.plain] using hp))
 | undef=>exact fun _=>.undef
 | _=>intro hp;simp[PV.plain] at hp
theorem zwH (g:Gh) (k:AK) (ai:AI):(g.put 0 k ai g.fz).pop=g.pop:=by
 unfold Gh.pop Gh.put
 simp
theorem zxf {g:Gh} {S:Sto} {w:World} (hw:WR g S w) {A:Arr} {ai:AI} (hr:ArrRel g w A ai) (hn:∀ b,ai.blk=some b→∀ x,g.own x≠some b):∃ g',WR g' S w∧Ext g g'∧Tr g w g' w∧VR g' (.list A.sz A.rows false) (.slice ai.A ai.len ai.cap):=by
 obtain⟨cs,c1,c2⟩:=hr.cells
 obtain⟨φ,hφ⟩:∃ φ:Fz,(∃ b0,ai.blk=some b0∧φ=za4 g.fz w b0 0 (ai.len*A.sz))∨(ai.blk=none∧φ=g.fz):=by
  cases hb:ai.blk with
  | none=>exact⟨_,.inr ⟨rfl,rfl⟩⟩
  | some b0=>exact⟨_,.inl ⟨b0,rfl,rfl⟩⟩
 have hsub:∀ b o v,g.fz b o=some v→φ b o=some v:=by
  intro b o v hv
  rcases hφ with⟨b0,_,rfl⟩ | ⟨_,rfl⟩
  ·exact zf9 hw.fz b o v hv
  exact hv
 have hhold:∀ b o v,φ b o=some v→w.cell? ⟨b,o,none⟩=some v:=by
  intro b o v hv
  rcases hφ with⟨b0,_,rfl⟩ | ⟨_,rfl⟩
  ·exact zeE hw.fz b o v hv
  exact hw.fz b o v hv
 have hcell:∀ ad i j row v,ai.A=some ad→A.rows[i]?=some row→row[j]?=some v→φ ad.block (ad.off+(i*A.sz+j))=some (cs i j):=by
  intro ad i j row v had hi hj
  obtain⟨h4,h5⟩:=c2 ad i j row v had hi hj
  rcases hφ with⟨b0,hb,rfl⟩ | ⟨hb,rfl⟩
  ·have hA1:=(hr.own b0 hb).1
   rw[had] at hA1
   obtain rfl:=Option.some.inj hA1
   have hi':i < ai.len:=by rw[hr.len];exact (List.getElem?_eq_some_iff.1 hi).1
   have hj':j < A.sz:=by rw[←hr.each row (List.mem_of_getElem? hi)];exact (List.getElem?_eq_some_iff.1 hj).1
   have:=zcj hi' hj'
   dsimp only[za4]
   rw[if_pos ⟨rfl,by omega,by omega⟩]
   exact h4
  rcases (hr.free hb).2 with h | h
  ·exact h5 h
  rw[h] at hi;simp at hi
 have hoth:∀ x b,g.own x=some b→∀ o,φ b o=g.fz b o:=by
  intro x b hx o
  rcases hφ with⟨b0,hb0,rfl⟩ | ⟨_,rfl⟩
  ·unfold za4
   rw[if_neg]
   rintro ⟨rfl,_⟩
   exact hn b hb0 x hx
  rfl
 have hown:∀ x b,(⟨g.b,g.a,φ⟩:Gh).own x=some b→g.own x=some b:=fun x b h=>by cases x <;> exact h
 have hx:Ext g ⟨g.b,g.a,φ⟩:=⟨⟨fun _ _ _ h=>h,fun _ _ ai h=>⟨ai,h,AIle.refl _⟩,hsub⟩,fun _ _ hb=>⟨hb.1,hb.2⟩⟩
 refine⟨⟨g.b,g.a,φ⟩,⟨⟨hw.ok.size,hw.ok.keep,fun x k h=>hw.ok.own x k (hown x k h)⟩,hhold,?_,?_,fun x y b h1 h2=>hw.inj x y b (hown x b h1) (hown y b h2)⟩,hx,⟨rfl,rfl,rfl,Nat.le_refl _,hsub,fun _ _ _=>rfl,fun x k h=>.inl (hown x k h),hx.pop_⟩,?_⟩
 ·intro m t b hb
  obtain⟨vs,cs,elem,h1,h2,h3,h4,h5⟩:=hw.box m t b hb
  exact⟨vs,cs,elem,h1,h2,h3,fun i v hi=>(h4 i v hi).mono hx,fun o=>(hoth (.box m t) b hb o).trans (h5 o)⟩
 ·intro m j a0 ha
  obtain⟨A0,h1,hr0⟩:=hw.arr m j a0 ha
  refine⟨A0,h1,?_⟩
  obtain⟨cs,c1,c2⟩:=hr0.cells
  refine⟨hr0.sz,hr0.len,hr0.gen,hr0.each,hr0.cap,hr0.addr,⟨cs,fun i p row v hi hp=>(c1 i p row v hi hp).mono hsub,fun ad i p row v had hi hp=>?_⟩,?_,hr0.free⟩
  ·obtain⟨h4,h5⟩:=c2 ad i p row v had hi hp
   exact⟨h4,fun hfr=>hsub _ _ _ (h5 hfr)⟩
  intro b hb
  obtain⟨h2,h3,h5,h6⟩:=hr0.own b hb
  have ha':g.a m j=some a0:=ha
  have q:=hoth (.arr m j) b (by simp[Gh.own,ha',hb])
  exact⟨h2,h3,fun o ho=>(q o).trans (h5 o ho),fun hf o=>(q o).trans (h6 hf o)⟩
 have key:=FR.list (fz:=φ) A.sz A.rows false ai.A ai.cap cs (by rw[←hr.len];exact hr.cap) (by simp) hr.each hr.addr hcell (fun i j row v hi hj=>(c1 i j row v hi hj).mono hsub)
 rw[←hr.len] at key
 exact .data _ _ key
theorem zxL {gb g1:Gh} {wb w1:World} {acb ac1 ac':Ac} (hB:Base.base.heap.size≤wb.heap.size) (hw:WR g1 ac1.S w1) (hne:0 < ac1.S.length) {kd:Bool} {d:Nat} {A:Arr} {ai:AI} (hA:ArrRel g1 w1 A ai) (hb:∀ b,ai.blk=some b→wb.heap.size≤b∧∀ x,g1.own x≠some b) (he:ac1.e=acb.e) (hl:ac1.S.length=acb.S.length) (hx:Ext gb g1) (ht:Tr gb wb g1 w1)
  (h:newArr kd d A ac1=.ok ac'):∃ g',Step kd (some d) gb acb wb ac' (.slice ai.A ai.len ai.cap) w1 g':=by
 obtain⟨g',t1,hs⟩:=zju (w':=w1) (c:=.slice ai.A ai.len ai.cap) (T:=fun g'=>Tr gb wb g' w1) hw hne (fun g0 S0 hor w0 hn hl0=>by
  have ht0:Tr gb wb g0 w1:=by
   rcases hor with e | e
   ·rw[e];exact ht
   rw[e];exact ht.trans (Tr.kill g1 w1 d)
  have hfz:g0.fz=g1.fz:=by rcases hor with e | e <;> rw[e] <;> rfl
  have hown:∀ x b,g0.own x=some b→g1.own x=some b:=by
   intro x b h
   rcases hor with e | e
   ·rw[e] at h;exact h
   rw[e] at h;exact zfy h
  obtain⟨p1,p2⟩:=w0.put (w':=w1) (hok:=⟨Nat.le_refl _,fun _ _ _=>rfl⟩) (hbn:=fun b hbk=>Nat.le_trans hB (hb b hbk).1) (S':=setArr S0 0 (.slot d) A) (n:=0) (k:=.slot d) (A:=A) (ai:=ai) (φ:=g0.fz) w0.fz (fun _ _ _ h=>h) (fun _ _ _ _=>⟨rfl,fun _=>rfl⟩) (hA.ghost hfz.symm) (fun b hbk x _ hx=>(hb b hbk).2 x (hown x b hx)) (fun ai0 h0=>by rw[hn] at h0;cases h0) zjj (by rw[zav,if_pos ⟨rfl,rfl,hl0⟩]) (fun m t b _=>zaB _ _ _ _ _ _) (fun m j _ hne _=>by rw[zav,if_neg (fun e=>hne ⟨e.1,e.2.1⟩)])
  refine⟨_,p1,p2,⟨ht0.os,ht0.tape,ht0.output,ht0.size,fun b o v h=>ht0.fz b o v h,ht0.keep,fun x k hk=>?_,?_⟩,ai,by simp[Gh.put],hA.len,hA.gen,rfl,hA.addr,hA.cap⟩
  ·rcases zgX hk with⟨_,h1⟩ | ⟨_,h1⟩
   ·exact .inr (hb k h1).1
   exact ht0.new x k h1
  rw[zwH];exact ht0.out) h
 exact⟨g',hs gb acb wb he.symm hl.symm hx t1⟩
theorem zuv {args caps:List PV} (h:zas caps=true):zW args caps=args++caps:=by
 match caps,h with
 | [],_=>rfl
 | [v],h=>cases v <;> first | rfl | (simp[zas] at h)
 | u::_::_,_=>cases u <;> rfl
theorem zoZ {g:Gh} {us vs:List PV} {A B:Array Value} (h1:us.length=A.size) (h2:vs.length=B.size) (k1:∀ i v,us[i]?=some v→VR g v (A.getD i Go.undef)) (k2:∀ i v,vs[i]?=some v→VR g v (B.getD i Go.undef)):∀ i v,(us++vs)[i]?=some v→VR g v ((A++B).getD i Go.undef):=by
 intro i v hi
 rcases Nat.lt_or_ge i us.length with hlt | hge
 ·rw[List.getElem?_append_left hlt] at hi
  have:=k1 i v hi
  rw[Array.getD_eq_getD_getElem?] at this ⊢
  rwa [Array.getElem?_append_left (by omega)]
 rw[List.getElem?_append_right hge] at hi
 have:=k2 _ v hi
 rw[Array.getD_eq_getD_getElem?] at this ⊢
 rw[Array.getElem?_append_right (by omega),←h1]
 exact this
theorem zrX {g:Gh} {P:Program} {w:World} {o:Oper} {c:Call} {y:Operand} {ac:Ac} {a:Act} {xs:List X} {f:Nat} {caps:List PV} (ho:o.op=.call c) (hcal:c.callee=.value y) (hxl:xs.length=c.args.size) (hxr:∀ (i:Nat) (x':X),xs[i]?=some x'→∃ x,c.args.toList[i]?=some x∧VR g (ac.ev x') (a.eval x)) (hfv:VR g (.func f caps) (a.eval y)) :
  ∃ cargs:Array Value,(execOp a.eval o).run P w=(callFunc f cargs).run P w∧(∀ i v,(zW (xs.map ac.ev) caps)[i]?=some v→VR g v (cargs.getD i Go.undef))∧(zW (xs.map ac.ev) caps).length=cargs.size:=by
 have hx:∀ i v,(xs.map ac.ev)[i]?=some v→VR g v ((c.args.map a.eval).getD i Go.undef):=by
  intro i v hi
  rw[List.getElem?_map,Option.map_eq_some_iff] at hi
  obtain⟨x',hx',rfl⟩:=hi
  obtain⟨x,hx,hvr⟩:=hxr i x' hx'
  have hx2:c.args[i]?=some x:=by simpa using hx
  rw[Array.getD_eq_getD_getElem?]
  simpa [hx2] using hvr
 by_cases hn:zas caps=true
 ·obtain⟨cc,hcc,hcl1,hcr⟩:=hfv.func_inv hn
  rw[zuv hn]
  refine⟨c.args.map a.eval++cc,?_,zoZ (by simpa using hxl) hcl1 hx hcr,by simp[hxl,hcl1]⟩
  unfold execOp
  rw[ho]
  simp[resolve,hcal,hcc,Deferred.ofValue,invoke]
 obtain⟨vs,rfl⟩:∃ vs,caps=[.tup vs]:=by
  match caps,hn with
  | [],h=>exact absurd rfl h
  | [v],h=>cases v <;> first | exact⟨_,rfl⟩ | exact absurd rfl h
  | _::_::_,h=>exact absurd (zdj _ _ _) h
 obtain⟨cc,hcc,hcl1,hcr⟩:=hfv.meth_inv
 refine⟨cc++c.args.map a.eval,?_,zoZ hcl1 (by simpa using hxl) hcr hx,by simp[zW,hxl,hcl1]⟩
 unfold execOp
 rw[ho]
 simp[resolve,hcal,hcc,Deferred.ofValue,invoke]
theorem zwK {cl:zi} (hcl:zak P cl) {o:Oper} {fx:X} {xs:List X} (hc:cOp P o=some (.call fx xs)) {kd:Bool} {ac:Ac} {a:Act} (hr:Rel g ac a w) (hne:0 < ac.S.length) :
  OpRes P o kd g ac w a (callP cl kd o.dst (ac.ev fx) (xs.map ac.ev) ac):=by
 obtain⟨c,y,ho,hcal,hy,hxs⟩:=zuM hc
 unfold callP
 split
 ·rename_i f caps hf
  have hfv:=hr.ev hy
  rw[hf] at hfv
  obtain⟨hxl,hxr⟩:=hr.evs c.args.toList c.argTypes.toList xs hxs
  have hxl':xs.length=c.args.size:=by simpa using hxl
  obtain⟨cargs,hexec,hargs,hsize⟩:∃ cargs:Array Value,(execOp a.eval o).run P w=(callFunc f cargs).run P w∧(∀ i v,(zW (xs.map ac.ev) caps)[i]?=some v→VR g v (cargs.getD i Go.undef))∧(zW (xs.map ac.ev) caps).length=cargs.size:=zrX ho hcal hxl' hxr hfv
  split
  ·rename_i as_ S1 hh
   obtain⟨g1,w1,x1,t1,l1,r1⟩:=zjG _ as_ ac.S S1 g (fun i=>cargs.getD i Go.undef) hr.wr hargs hh
   have hS1:S1.length=ac.S.length:=zfS _ _ _ _ hh
   have hcall:=hcl f as_ S1
   split
   ·rename_i r S2 hres
    dsimp only
    by_cases hrest:((zW (xs.map ac.ev) caps).any PV.hasSl && as_.all (fun v=>v.cells.all PV.pure) && r.plain)=true
    ·rw[if_pos hrest]
     simp only[Bool.and_eq_true] at hrest
     obtain⟨⟨_,hpure⟩,hplain⟩:=hrest
     cases r with
     | arr sz rows frz=>cases hplain
     | v x =>
      intro K Q hK
      have wE:WR ⟨fun _ _=>none,fun _ _=>none,g1.fz⟩ S1 w:=⟨⟨w1.ok.size,w1.ok.keep,fun x k h=>by cases x <;> simp[Gh.own] at h⟩,w1.fz,(fun _ _ _ h=>by cases h),(fun _ _ _ h=>by cases h),fun x y b h=>by cases x <;> simp[Gh.own] at h⟩
      have ha:=hcall (by rw[hres];exact fun h=>by cases h) ⟨fun _ _=>none,fun _ _=>none,g1.fz⟩ w cargs wE ⟨l1.trans hsize,fun i v hi=>zqM (r1 i v hi) (List.all_eq_true.1 hpure v (List.mem_of_getElem? hi)) rfl⟩
      rw[hres] at ha
      refine ha.wp hexec (fun c' w' hR=>?_) (fun ch w' hR=>hR.elim) (fun w' hR=>hR.elim)
      obtain⟨g2,w2,x2,t2,ret,_⟩:=hR
      have hkeep:∀ k,k < w.heap.size→w'.heap[k]?=w.heap[k]?:=fun k hk=>t2.keep k hk (fun x h=>by cases x <;> simp[Gh.own] at h)
      have hwr:WR g ac.S w':=hr.wr.keep (fun b o' v h=>by
       have:=hr.wr.fz b o' v h
       have hlt:=zc6 this
       unfold World.cell? at this ⊢
       rw[hkeep b hlt]
       exact this) (fun x b h=>hkeep b (hr.wr.own_lt h)) t2.size hkeep
      refine hK c' w' g (zbT (S':=ac.S) hwr (Ext.refl g) ⟨t2.os,t2.tape,t2.output,t2.size,fun _ _ _ h=>h,fun k hk _=>hkeep k hk,fun x k h=>.inl h,Ext.refl _⟩ (VR.plain ret hplain) rfl)
    rw[if_neg hrest]
    have ha:=hcall (by rw[hres];exact fun h=>by cases h) g1 w cargs w1 ⟨l1.trans hsize,r1⟩
    rw[hres] at ha
    cases r with
    | v x =>
     intro K Q hK
     refine ha.wp hexec (fun c' w' hR=>?_) (fun ch w' hR=>hR.elim) (fun w' hR=>hR.elim)
     obtain⟨g2,w2,x2,t2,ret,l2⟩:=hR
     exact hK c' w' g2 (zbT w2 (x1.trans x2) (t1.trans t2) ret (l2.trans hS1))
    | arr sz rows frz =>
     dsimp only
     cases hd:o.dst with
     | none =>
      intro K Q hK
      refine ha.wp hexec (fun c' w' hR=>?_) (fun ch w' hR=>hR.elim) (fun w' hR=>hR.elim)
      obtain⟨g2,w2,x2,t2,ret,l2⟩:=hR
      have:=zbT (d:=none) (kd:=kd) (ac:=ac) (v:=.junk) (c:=c') w2 (x1.trans x2) (t1.trans t2) (.junk _) (l2.trans hS1)
      rw[hd] at hK ⊢
      exact hK c' w' g2 this
     | some d =>
      dsimp only
      by_cases hkd:kd=true
      rotate_left
      ·rw[if_neg hkd]
       intro K Q hK
       refine ha.wp hexec (fun c' w' hR=>?_) (fun ch w' hR=>hR.elim) (fun w' hR=>hR.elim)
       obtain⟨g2,w2,x2,t2,⟨ai,hA,rfl,hb⟩,l2⟩:=hR
       obtain⟨g3,w3,x3,t3,v3⟩:=zxf w2 hA (fun b hbk x=>(hb b hbk).2 x)
       rw[hd] at hK ⊢
       exact hK _ w' g3 (zbT w3 ((x1.trans x2).trans x3) ((t1.trans t2).trans t3) v3 (l2.trans hS1))
      rw[if_pos hkd]
      cases hn:newArr kd d ⟨sz,rows,frz,0⟩ { ac with S:=S2 } with
      | bad=>trivial
      | pan v S=>unfold newArr at hn;split at hn <;> first | cases hn | (split at hn <;> cases hn)
      | ok ac' =>
       intro K Q hK
       refine ha.wp hexec (fun c' w' hR=>?_) (fun ch w' hR=>hR.elim) (fun w' hR=>hR.elim)
       obtain⟨g2,w2,x2,t2,⟨ai,hA,rfl,hb⟩,l2⟩:=hR
       obtain⟨g3,hst⟩:=zxL (acb:=ac) (ac1:={ ac with S:=S2 }) hr.wr.ok.size w2 (by show 0 < S2.length;omega) hA hb rfl (l2.trans hS1) (x1.trans x2) (t1.trans t2) hn
       rw[hd] at hK ⊢
       exact hK _ w' g3 hst
   ·rename_i v S2 hres
    intro K Q hK
    have ha:=hcall (by rw[hres];exact fun h=>by cases h) g1 w cargs w1 ⟨l1.trans hsize,r1⟩
    rw[hres] at ha
    refine ha.wp hexec (fun c' w' hR=>hR.elim) (fun ch w' hR=>?_) (fun w' hR=>hR.elim)
    obtain⟨g2,c',rfl,w2,v2,x2,t2,l2⟩:=hR
    exact hK c' w' g2 w2 v2 (x1.trans x2) (t1.trans t2) (l2.trans hS1)
   trivial
  trivial
 trivial
end
section
variable [Base] {g g':Gh} {S S':Sto} {w w':World} {P:Program} {D:List Deferred}
structure zar (D:List Deferred) (n:Nat) (g:Gh) (ac:Ac) (a:Act) (w:World):Prop where
 rel:Rel g ac a w
 size:a.tmps.size=n
 defers:a.defers=D
 ne:0 < ac.S.length
def EPost (D:List Deferred) (n:Nat) (g:Gh) (l:Nat) (w:World) (Q:Exit→Act→World→Prop):EO→Prop
 | .nor ac'=>∀ a' w' g',zar D n g' ac' a' w'→Tr g w g' w'→ac'.S.length=l→Q .normal a' w'
 | .ext id ac'=>∀ a' w' g',zar D n g' ac' a' w'→Tr g w g' w'→ac'.S.length=l→Q (.exit id) a' w'
 | .ret ac'=>∀ a' w' g',zar D n g' ac' a' w'→Tr g w g' w'→ac'.S.length=l→Q .ret a' w'
 | .pan v S=>∀ a' w' g' c,WR g' S w'→VR g' v c→Tr g w g' w'→S.length=l→a'.defers=D→Q (.panic [{ v:=c,recovered:=false }]) a' w'
 | .bad=>False
theorem EPost.from {n l:Nat} {g1:Gh} {w1:World} {Q:Exit→Act→World→Prop} {r:EO} (h:EPost D n g l w Q r) (ht:Tr g w g1 w1):EPost D n g1 l w1 Q r:=by
 cases r with
 | nor ac=>exact fun a' w' g' h1 h2 h3=>h a' w' g' h1 (ht.trans h2) h3
 | ext id ac=>exact fun a' w' g' h1 h2 h3=>h a' w' g' h1 (ht.trans h2) h3
 | ret ac=>exact fun a' w' g' h1 h2 h3=>h a' w' g' h1 (ht.trans h2) h3
 | pan v S=>exact fun a' w' g' c h1 h2 h3 h4 h5=>h a' w' g' c h1 h2 (ht.trans h3) h4 h5
 | bad=>exact h
def zer (P:Program) (ops:Array Oper) (o:Oper) (a:Act) (w:World) (K:Act→World→Prop) (Q:Exit→Act→World→Prop):Prop :=
 if Region.wanted o (yielded ops a.tmps)=true then o.wp P a w K Q else K (a.put o.dst Go.undef) w
def zqn (P:Program) (ops:Array Oper) (o:Oper) (kd:Bool) (g:Gh) (ac:Ac) (w:World) (a:Act):OO→Prop
 | .ok ac'=>∀ (K:Act→World→Prop) (Q:Exit→Act→World→Prop),(∀ c w' g',Step kd o.dst g ac w ac' c w' g'→K (a.put o.dst c) w')→zer P ops o a w K Q
 | .pan v S=>∀ (K:Act→World→Prop) (Q:Exit→Act→World→Prop),(∀ c w' g',WR g' S w'→VR g' v c→Ext g g'→Tr g w g' w'→S.length=ac.S.length→Q (.panic [{ v:=c,recovered:=false }]) a w')→zer P ops o a w K Q
 | .bad=>True
theorem OpRes.wanted {ops:Array Oper} {o:Oper} {kd:Bool} {ac:Ac} {a:Act} {r:OO} (h:OpRes P o kd g ac w a r) (hw:Region.wanted o (yielded ops a.tmps)=true):zqn P ops o kd g ac w a r:=by
 cases r with
 | ok ac'=>intro K Q hK;unfold zer;rw[if_pos hw];exact h K Q hK
 | pan v S=>intro K Q hK;unfold zer;rw[if_pos hw];exact h K Q hK
 | bad=>trivial
theorem zc2 {n:Nat} {ops:Array Oper} {o:Oper} {so:SOper} (h:zgf P n ops o=some so):cOp P o=some so.op∧so.dst=o.dst∧(∀ d,o.dst=some d→d < n) ∧
  ((o.guard=none∧so.guard=none)∨∃ j b d,o.guard=some (j,b)∧(ops[j]?).bind (·.dst)=some d∧so.guard=some (d,b)):=by
 unfold zgf at h
 split at h
 ·cases h
 rename_i op hop
 split at h
 ·rename_i hd
  have hdn:∀ d,o.dst=some d→d < n:=by
   intro d hd'
   rw[hd'] at hd
   simpa using hd
  split at h
  ·rename_i hg
   cases h
   exact⟨hop,rfl,hdn,.inl ⟨hg,rfl⟩⟩
  rename_i j b hg
  split at h
  ·rename_i d hj
   cases h
   exact⟨hop,rfl,hdn,.inr ⟨j,b,d,hg,hj,rfl⟩⟩
  cases h
 cases h
theorem zrs {a:Act} {d:Nat} {b:Bool} (h:a.eval (.tmp d)=.bool b):a.tmps[d]?=some (.bool b):=by
 simp only[Act.eval] at h
 rw[Array.getD_eq_getD_getElem?] at h
 cases hd:a.tmps[d]? with
 | none=>rw[hd] at h;simp[Go.undef] at h
 | some v=>rw[hd] at h;simp at h;rw[h]
theorem ziz {cl:zi} (hcl:zak P cl) {n:Nat} {ops:Array Oper} {o:Oper} {so:SOper} (hc:zgf P n ops o=some so) {kd:Bool} {ac:Ac} {a:Act} (hr:zar D n g ac a w) (hfree:kd=false→∀ d z,so.dst=some d→so.op=.alloc z→za1 g 0 d) :
  zqn P ops o kd g ac w a (stp cl kd so ac):=by
 obtain⟨h1,h2,h3,h4⟩:=zc2 hc
 have hop:OpRes P o kd g ac w a (ex cl kd so.dst so.op ac):=by
  rw[h2]
  exact zAd h1 hr.rel hr.ne (fun hk d z hd hz=>hfree hk d z (by rw[h2];exact hd) hz) (fun f xs he=>zwK hcl (by rw[h1,he]) hr.rel hr.ne)
 have hskip:Region.wanted o (yielded ops a.tmps)=false→zqn P ops o kd g ac w a (.ok (ac.put so.dst .undef)):=by
  intro hw K Q hK
  unfold zer
  rw[if_neg (by rw[hw];simp)]
  rw[h2] at hK
  exact hK _ w g (zbT (S':=ac.S) (v:=.undef) hr.rel.wr (Ext.refl g) (Tr.refl g w) .undef rfl)
 unfold stp
 rcases h4 with⟨hg,hsg⟩ | ⟨j,b,d,hg,hj,hsg⟩
 ·rw[hsg]
  exact hop.wanted (by simp[Region.wanted,hg])
 rw[hsg]
 dsimp only
 have henv:=hr.rel.env d
 split
 ·rename_i b' hb'
  rw[hb'] at henv
  have ht:=zrs henv.bool_inv
  have hy:yielded ops a.tmps j=some b':=by simp[yielded,hj,ht]
  split
  ·rename_i e
   subst e
   exact hop.wanted (by simp[Region.wanted,hg,hy])
  rename_i e
  exact hskip (by simp[Region.wanted,hg,hy,e])
 ·rename_i hu
  rw[hu] at henv
  have hev:=henv.undef_inv
  refine hskip ?_
  have hy:yielded ops a.tmps j=none:=by
   simp only[yielded,hj,Option.bind_some]
   simp only[Act.eval] at hev
   rw[Array.getD_eq_getD_getElem?] at hev
   cases hd:a.tmps[d]? with
   | none=>rfl
   | some v=>rw[hd] at hev;simp at hev;subst hev;rfl
  simp[Region.wanted,hg,hy]
 trivial
theorem Act.put_size (a:Act) (d:Option Nat) (c:Value):(a.put d c).tmps.size=a.tmps.size:=by cases d <;> simp[Act.put]
theorem Act.put_defers_ (a:Act) (d:Option Nat) (c:Value):(a.put d c).defers=a.defers:=by cases d <;> rfl
theorem zhU {a:Act} {d:Nat} {c:Value} (h:d < a.tmps.size):(a.put (some d) c).eval (.tmp d)=c:=by
 simp only[Act.put,Act.eval]
 rw[Array.getD_eq_getD_getElem?]
 simp[h]
theorem zeB {a:Act} {d:Option Nat} {t:Nat} {c:Value} (h:d≠some t):(a.put d c).eval (.tmp t)=a.eval (.tmp t):=by
 cases d with
 | none=>rfl
 | some d =>
  have:d≠t:=fun e=>h (by rw[e])
  simp only[Act.put,Act.eval]
  rw[Array.getD_eq_getD_getElem?,Array.getD_eq_getD_getElem?]
  simp[this]
theorem Step.relA {kd:Bool} {d:Option Nat} {n:Nat} {ac ac':Ac} {a:Act} {c:Value} (h:Step kd d g ac w ac' c w' g') (hr:zar D n g ac a w) (hd:∀ t,d=some t→t < n):zar D n g' ac' (a.put d c) w':=by
 refine⟨⟨h.wr,fun t=>?_⟩,by rw[Act.put_size];exact hr.size,by rw[Act.put_defers_];exact hr.defers,by rw[h.len];exact hr.ne⟩
 by_cases e:d=some t
 ·subst e
  rw[zhU (by rw[hr.size];exact hd t rfl)]
  exact h.dst t rfl
 rw[zeB e]
 exact h.env t e _ (hr.rel.env t)
theorem zj7 {cl:zi} (hcl:zak P cl) {n:Nat} {ops:Array Oper} {Q:Exit→Act→World→Prop}:∀ (ol:List Oper) (l:List SOper),zbg P n ops ol=some l→∀ {g:Gh} {ac:Ac} {a:Act} {w:World},zar D n g ac a w→EPost D n g ac.S.length w Q (zQ cl l ac)→wpList P ops Q ol a w
 | [],l,hc,g,ac,a,w,hr,hp=>by
  simp only[zbg,Option.some.injEq] at hc
  subst hc
  exact hp a w g hr (Tr.refl g w) rfl
 | o::ol,l,hc,g,ac,a,w,hr,hp=>by
  simp only[zbg] at hc
  split at hc
  ·rename_i so sl ho hl
   obtain rfl:=Option.some.inj hc
   have hs:=ziz hcl ho (kd:=true) hr (fun h=>by cases h)
   obtain⟨_,_,hdn,_⟩:=zc2 ho
   refine wpList_step fun K hK=>?_
   simp only[zQ] at hp
   cases hst:stp cl true so ac with
   | ok ac' =>
    rw[hst] at hs hp
    have:=hs K Q (fun c w' g' hstep=>hK _ _ (zj7 hcl ol sl hl (hstep.relA hr hdn) (by rw[hstep.len];exact hp.from hstep.tr)))
    unfold zer at this
    exact this
   | pan v S =>
    rw[hst] at hs hp
    have:=hs K Q (fun c w' g' h1 h2 _ h3 h4=>hp a w' g' c h1 h2 h3 h4 hr.defers)
    unfold zer at this
    exact this
   | bad=>rw[hst] at hp;exact hp.elim
  cases hc
end
section
variable {ev ev':X→PV} {S S':Sto} {e e':Nat→PV} {cl:zi}
def zcF (e e':Nat→PV) (l:List Nat):Prop:=∀ t ∈ l,e t=e' t
theorem zS {a b:List Nat} (h:zcF e e' (a++b)):zcF e e' a∧zcF e e' b:=⟨fun t ht=>h t (List.mem_append.2 (.inl ht)),fun t ht=>h t (List.mem_append.2 (.inr ht))⟩
theorem zn {x:X} (h:zcF e e' x.tm):Ac.ev ⟨e,S⟩ x=Ac.ev ⟨e',S'⟩ x:=by
 cases x with
 | t n=>exact h n (by simp[X.tm])
 | c v=>rfl
theorem zeJ {x:Option X} (h:zcF e e' (tmO x)):x.map (Ac.ev ⟨e,S⟩)=x.map (Ac.ev ⟨e',S'⟩):=by
 cases x with
 | none=>rfl
 | some x=>simp only[Option.map_some,Option.some.injEq];exact zn h
theorem zgp:∀ {xs:List X},zcF e e' (xs.flatMap X.tm)→xs.map (Ac.ev ⟨e,S⟩)=xs.map (Ac.ev ⟨e',S'⟩)
 | [],_=>rfl
 | x::xs,h=>by
  rw[List.flatMap_cons] at h
  obtain⟨h1,h2⟩:=zS h
  simp only[List.map_cons]
  rw[zn h1,zgp h2]
theorem zjE:∀ (parts:List (Nat × Nat × X)) (cs:List PV),zcF e e' (parts.flatMap fun p=>p.2.2.tm)→fillP cs (Ac.ev ⟨e,S⟩) parts=fillP cs (Ac.ev ⟨e',S'⟩) parts
 | [],cs,_=>rfl
 | (off,sz,x)::r,cs,h=>by
  rw[List.flatMap_cons] at h
  obtain⟨h1,h2⟩:=zS h
  simp only[fillP]
  rw[zn (S':=S') h1,zjE r _ h2]
theorem zjx {sz:Nat} {S0:Sto}:∀ (parts:List (Nat × X)) (rows:List (List PV)) (S0:Sto),zcF e e' (parts.flatMap fun p=>p.2.tm)→rowsP S0 (Ac.ev ⟨e,S⟩) sz rows parts=rowsP S0 (Ac.ev ⟨e',S'⟩) sz rows parts
 | [],rows,S0,_=>rfl
 | (i,x)::r,rows,S0,h=>by
  rw[List.flatMap_cons] at h
  obtain⟨h1,h2⟩:=zS h
  simp only[rowsP]
  have e1:Ac.ev ⟨e,S⟩ x=Ac.ev ⟨e',S'⟩ x:=zn h1
  rw[e1]
  split
  ·rw[zjx (sz:=sz) (S0:=S0) r _ _ h2]
  rfl
theorem zmo {caps:List X} (h:zcF e e' (caps.flatMap X.tm)):(caps.all fun x=>(Ac.ev ⟨e,S⟩ x).one)=caps.all fun x=>(Ac.ev ⟨e',S'⟩ x).one:=by
 induction caps with
 | nil=>rfl
 | cons x xs ih =>
  rw[List.flatMap_cons] at h
  obtain⟨h1,h2⟩:=zS h
  simp only[List.all_cons]
  rw[zn (S':=S') h1,ih h2]
theorem ziH (o:VO) (h:zcF e e' o.tm) (S0:Sto):vop (Ac.ev ⟨e,S⟩) S0 o=vop (Ac.ev ⟨e',S'⟩) S0 o:=by
 cases o with
 | mov x=>simp only[vop,zn (S:=S) (S':=S') (x:=x) h]
 | un _ x=>simp only[vop,zn (S:=S) (S':=S') (x:=x) h]
 | conv _ x=>simp only[vop,zn (S:=S) (S':=S') (x:=x) h]
 | mkif _ x=>simp only[vop,zn (S:=S) (S':=S') (x:=x) h]
 | load _ x=>simp only[vop,zn (S:=S) (S':=S') (x:=x) h]
 | nchk x=>simp only[vop,zn (S:=S) (S':=S') (x:=x) h]
 | faddr _ x=>simp only[vop,zn (S:=S) (S':=S') (x:=x) h]
 | field _ _ x=>simp only[vop,zn (S:=S) (S':=S') (x:=x) h]
 | extract _ x=>simp only[vop,zn (S:=S) (S':=S') (x:=x) h]
 | len _ x=>simp only[vop,zn (S:=S) (S':=S') (x:=x) h]
 | isnil _ x=>simp only[vop,zn (S:=S) (S':=S') (x:=x) h]
 | isnile _ x=>simp only[vop,zn (S:=S) (S':=S') (x:=x) h]
 | pick c a b =>
  obtain⟨h1,h2⟩:=zS h
  obtain⟨h2,h3⟩:=zS h2
  simp only[vop,zn (S:=S) (S':=S') h1,zn (S:=S) (S':=S') h2,zn (S:=S) (S':=S') h3]
 | bin _ x y=>obtain⟨h1,h2⟩:=zS h;simp only[vop,zn (S:=S) (S':=S') h1,zn (S:=S) (S':=S') h2]
 | binb _ x y=>obtain⟨h1,h2⟩:=zS h;simp only[vop,zn (S:=S) (S':=S') h1,zn (S:=S) (S':=S') h2]
 | eqs _ _ x y=>obtain⟨h1,h2⟩:=zS h;simp only[vop,zn (S:=S) (S':=S') h1,zn (S:=S) (S':=S') h2]
 | iaddr _ x y=>obtain⟨h1,h2⟩:=zS h;simp only[vop,zn (S:=S) (S':=S') h1,zn (S:=S) (S':=S') h2]
 | istr x y=>obtain⟨h1,h2⟩:=zS h;simp only[vop,zn (S:=S) (S':=S') h1,zn (S:=S) (S':=S') h2]
 | mm _ x y=>obtain⟨h1,h2⟩:=zS h;simp only[vop,zn (S:=S) (S':=S') h1,zn (S:=S) (S':=S') h2]
 | func f caps=>simp only[vop,zmo (S:=S) (S':=S') h,zgp (S:=S) (S':=S') h]
 | meth f caps=>simp only[vop,zgp (S:=S) (S':=S') h]
 | build z parts=>simp only[vop,zjE (S:=S) (S':=S') parts z h]
 | slc _ x lo hi mx =>
  obtain⟨h1,h2⟩:=zS h
  obtain⟨h2,h3⟩:=zS h2
  obtain⟨h3,h4⟩:=zS h3
  simp only[vop,zn (S:=S) (S':=S') h1,zeJ (S:=S) (S':=S') h2,zeJ (S:=S) (S':=S') h3,zeJ (S:=S) (S':=S') h4]
 | sls x lo hi =>
  obtain⟨h1,h2⟩:=zS h
  obtain⟨h2,h3⟩:=zS h2
  simp only[vop,zn (S:=S) (S':=S') h1,zeJ (S:=S) (S':=S') h2,zeJ (S:=S) (S':=S') h3]
def Uni (d:Option Nat) (F:(Nat→PV)→OO):Prop:=∀ e ac,F e=.ok ac→∃ v,∀ e2,F e2=.ok (({ e:=e2,S:=ac.S }:Ac).put d v)
theorem zcQ (d:Option Nat) (v:PV) (S:Sto):Uni d fun e=>.ok (({ e:=e,S:=S }:Ac).put d v):=fun e ac h=>by
 cases h
 refine⟨v,fun e2=>?_⟩
 cases d <;> rfl
theorem zaD (d:Option Nat):Uni d fun _=>.bad:=fun e ac h=>by cases h
theorem zfe (d:Nat) (A:Arr) (S:Sto):Uni (some d) fun e=>newArr false d A ⟨e,S⟩:=by
 unfold newArr
 simp only[Bool.false_eq_true,if_false]
 cases getArr S 0 (.slot d) with
 | none=>exact zcQ (some d) _ _
 | some _=>exact zaD _
open Classical in
theorem zqV (d sz bytes:Nat) (x y:PV) (S:Sto):Uni (some d) fun e=>appendP false d sz bytes x y ⟨e,S⟩:=by
 unfold appendP
 dsimp only
 cases srcRows S sz y with
 | none=>exact zaD _
 | some src =>
  dsimp only
  cases x <;> try exact zaD _
  case nils z =>
   dsimp only
   split
   ·exact zfe _ _ _
   exact zaD _
  case list z rows full =>
   cases full
   ·exact zaD _
   show Uni (some d) fun e=>if z=sz∧bigRow (rows.length+src.length) bytes then newArr false d ⟨sz,rows++src,true,0⟩ ⟨e,S⟩ else .bad
   split
   ·exact zfe _ _ _
   exact zaD _
  case sl n a off len ver gen full =>
   dsimp only
   cases getArr S n a with
   | none=>exact zaD _
   | some A =>
    dsimp only
    split
    ·split
     ·exact zfe _ _ _
     split
     ·exact zcQ (some d) _ _
     exact zaD _
    exact zaD _
theorem ztH (d:Option Nat) (f:PV) (args:List PV) (S:Sto):Uni d fun e=>callP cl false d f args ⟨e,S⟩:=by
 unfold callP
 cases f <;> try exact zaD _
 rename_i f caps
 dsimp only
 cases handA S (zW args caps) with
 | none=>exact zaD _
 | some p =>
  obtain⟨as_,S1⟩:=p
  dsimp only
  cases cl f as_ S1 with
  | bad=>exact zaD _
  | pan v S=>exact fun e ac h=>by cases h
  | ok r S2 =>
   dsimp only
   cases r with
   | v x=>exact zcQ d _ _
   | arr sz rows frz =>
    cases d with
    | none=>exact zcQ none .junk _
    | some d =>
     simp only[Bool.false_eq_true,if_false]
     exact zcQ (some d) _ _
open Classical in
theorem zom {d:Option Nat} {op:SOp} {ac:Ac} (hx:zcF e e' op.tm) (h:ex cl false d op ⟨e,S⟩=.ok ac):∃ v,ac=(({ e:=e,S:=ac.S }:Ac).put d v)∧ex cl false d op ⟨e',S⟩=.ok (({ e:=e',S:=ac.S }:Ac).put d v):=by
 have use:∀ F:(Nat→PV)→OO,Uni d F→F e=.ok ac→ex cl false d op ⟨e',S⟩=F e'→∃ v,ac=(({ e:=e,S:=ac.S }:Ac).put d v)∧ex cl false d op ⟨e',S⟩=.ok (({ e:=e',S:=ac.S }:Ac).put d v):=by
  intro F hF h1 h2
  obtain⟨v,hv⟩:=hF e ac h1
  have:=hv e
  rw[h1] at this
  exact⟨v,OO.ok.inj this,h2.trans (hv e')⟩
 cases op with
 | v o =>
  refine use (fun e2=>match vop (Ac.ev ⟨e,S⟩) S o with | some v=>.ok (({ e:=e2,S:=S }:Ac).put d v) | none=>.bad) ?_ h ?_
  ·cases vop (Ac.ev ⟨e,S⟩) S o with
   | none=>exact zaD _
   | some v=>exact zcQ d v S
  show (match vop (Ac.ev ⟨e',S⟩) S o with | some v=>OO.ok (({ e:=e',S:=S }:Ac).put d v) | none=>.bad)=_
  rw[ziH (S:=S) (S':=S) o hx S]
 | nilv sz =>
  cases d with
  | none=>cases h
  | some d=>exact use _ (zfe d ⟨sz,[],false,0⟩ S) h rfl
 | alloc zero =>
  cases d with
  | none=>cases h
  | some d =>
   refine use (fun e2=>if getBox S 0 d=some (initC d 0 zero)∧okA d 0 zero (getArr S 0) then .ok (({ e:=e2,S:=S }:Ac).put (some d) (.ptr 0 d 0)) else .bad) ?_ ?_ ?_
   ·split
    ·exact zcQ _ _ _
    exact zaD _
   ·simpa [ex] using h
   simp[ex]
 | box x =>
  cases d with
  | none=>cases h
  | some d=>simp[ex] at h
 | bslice sz n zero parts =>
  refine use (fun e2=>if n=0 then .ok (({ e:=e2,S:=S }:Ac).put d (.nils sz)) else match rowsP S (Ac.ev ⟨e,S⟩) sz (List.replicate n zero) parts with | some (rows,S)=>.ok (({ e:=e2,S:=S }:Ac).put d (.list sz rows true)) | none=>.bad) ?_ h ?_
  ·split
   ·exact zcQ _ _ _
   split
   ·exact zcQ _ _ _
   exact zaD _
  show (if n=0 then _ else match rowsP S (Ac.ev ⟨e',S⟩) sz (List.replicate n zero) parts with | some (rows,S)=>OO.ok (({ e:=e',S:=S }:Ac).put d (.list sz rows true)) | none=>.bad)=_
  rw[zjx (S:=S) (S':=S) (S0:=S) parts _ S hx]
 | store k x v =>
  obtain⟨h1,h2⟩:=zS hx
  cases d with
  | some d=>simp[ex] at h
  | none =>
   refine use (fun e2=>match storeP S k (Ac.ev ⟨e,S⟩ x) (Ac.ev ⟨e,S⟩ v) with | some S=>.ok (({ e:=e2,S:=S }:Ac).put none .junk) | none=>.bad) ?_ ?_ ?_
   ·split
    ·exact zcQ none _ _
    exact zaD _
   ·simp only[ex] at h
    cases hs:storeP S k (Ac.ev ⟨e,S⟩ x) (Ac.ev ⟨e,S⟩ v) with
    | none=>rw[hs] at h;cases h
    | some S2=>rw[hs] at h;exact h
   simp only[ex]
   rw[zn (S:=S) (S':=S) h1,zn (S:=S) (S':=S) h2]
   cases storeP S k (Ac.ev ⟨e',S⟩ x) (Ac.ev ⟨e',S⟩ v) <;> rfl
 | append sz bytes x y =>
  obtain⟨h1,h2⟩:=zS hx
  cases d with
  | none=>cases h
  | some d =>
   refine use _ (zqV d sz bytes (Ac.ev ⟨e,S⟩ x) (Ac.ev ⟨e,S⟩ y) S) h ?_
   simp only[ex]
   rw[zn (S:=S) (S':=S) h1,zn (S:=S) (S':=S) h2]
 | call f args =>
  obtain⟨h1,h2⟩:=zS hx
  refine use _ (ztH (cl:=cl) d (Ac.ev ⟨e,S⟩ f) (args.map (Ac.ev ⟨e,S⟩)) S) h ?_
  simp only[ex]
  rw[zn (S:=S) (S':=S) h1,zgp (S:=S) (S':=S) h2]
 | panic x =>
  simp only[ex] at h
  split at h <;> cases h
 | w o =>
  refine use (fun e2=>match vop (Ac.ev ⟨e,S⟩) [] o with | some v=>.ok (({ e:=e2,S:=S }:Ac).put d v) | none=>.bad) ?_ h ?_
  ·cases vop (Ac.ev ⟨e,S⟩) [] o with
   | none=>exact zaD _
   | some v=>exact zcQ d v S
  show (match vop (Ac.ev ⟨e',S⟩) [] o with | some v=>OO.ok (({ e:=e',S:=S }:Ac).put d v) | none=>.bad)=_
  rw[ziH (S:=S) (S':=S) o hx []]
theorem zoe {kd:Bool} {d:Option Nat} {op:SOp} (hi:op.inert=true) {ac:Ac} (h:ex cl kd d op ⟨e,S⟩=.ok ac):ac.S=S∧∀ S2,ex cl kd d op ⟨e,S2⟩=.ok ⟨ac.e,S2⟩:=by
 cases op with
 | v o =>
  have hv:∀ S2,vop (Ac.ev ⟨e,S2⟩) S2 o=vop (Ac.ev ⟨e,S⟩) S o:=by
   intro S2
   cases o <;> first | rfl | (simp[SOp.inert] at hi;done) | skip
   case conv c x =>
    cases c <;> first | (simp[SOp.inert] at hi;done) | skip
    all_goals
     show convP S2 _ (Ac.ev ⟨e,S⟩ x)=convP S _ (Ac.ev ⟨e,S⟩ x)
     cases Ac.ev ⟨e,S⟩ x <;> rfl
  simp only[ex] at h ⊢
  cases hvv:vop (Ac.ev ⟨e,S⟩) S o with
  | none=>rw[hvv] at h;cases h
  | some v =>
   rw[hvv] at h
   cases h
   refine⟨by cases d <;> rfl,fun S2=>?_⟩
   rw[hv S2,hvv]
   cases d <;> rfl
 | w o =>
  simp only[ex] at h ⊢
  have hv:∀ S2,vop (Ac.ev ⟨e,S2⟩) [] o=vop (Ac.ev ⟨e,S⟩) [] o:=fun S2=>ziH (S:=S2) (S':=S) o (fun _ _=>rfl) []
  cases hvv:vop (Ac.ev ⟨e,S⟩) [] o with
  | none=>rw[hvv] at h;cases h
  | some v =>
   rw[hvv] at h
   cases h
   refine⟨by cases d <;> rfl,fun S2=>?_⟩
   rw[hv S2,hvv]
   cases d <;> rfl
 | _=>simp[SOp.inert] at hi
theorem zih {o:SOper} {ac:Ac} (hx:zcF e e' o.looks) (h:stp cl false o ⟨e,S⟩=.ok ac):∃ v,ac=(({ e:=e,S:=ac.S }:Ac).put o.dst v)∧stp cl false o ⟨e',S⟩=.ok (({ e:=e',S:=ac.S }:Ac).put o.dst v):=by
 have skip:∀ ac:Ac,OO.ok (({ e:=e,S:=S }:Ac).put o.dst .undef)=.ok ac→∃ v,ac=(({ e:=e,S:=ac.S }:Ac).put o.dst v)∧OO.ok (({ e:=e',S:=S }:Ac).put o.dst .undef)=.ok (({ e:=e',S:=ac.S }:Ac).put o.dst v):=by
  intro ac h
  cases h
  refine⟨.undef,?_,?_⟩ <;> cases o.dst <;> rfl
 unfold stp at h ⊢
 unfold SOper.looks at hx
 cases hg:o.guard with
 | none =>
  rw[hg] at h hx
  exact zom hx h
 | some p =>
  obtain⟨g,want⟩:=p
  rw[hg] at h hx
  dsimp only at h hx ⊢
  have h1:e g=e' g:=hx g (by simp)
  have h2:zcF e e' o.op.tm:=fun t ht=>hx t (by simp[ht])
  rw[←h1]
  cases hv:e g with
  | bool b =>
   rw[hv] at h
   dsimp only at h ⊢
   split at h
   ·rename_i hb;rw[if_pos hb];exact zom h2 h
   rename_i hb;rw[if_neg hb];exact skip ac h
  | undef=>rw[hv] at h;exact skip ac h
  | _=>rw[hv] at h;cases h
theorem zlU {kd:Bool} {o:SOper} (hi:o.op.inert=true) {ac:Ac} (h:stp cl kd o ⟨e,S⟩=.ok ac):ac.S=S∧∀ S2,stp cl kd o ⟨e,S2⟩=.ok ⟨ac.e,S2⟩:=by
 have skip:∀ ac:Ac,OO.ok (({ e:=e,S:=S }:Ac).put o.dst .undef)=.ok ac→ac.S=S∧∀ S2,OO.ok (({ e:=e,S:=S2 }:Ac).put o.dst .undef)=.ok ⟨ac.e,S2⟩:=by
  intro ac h
  cases h
  refine⟨by cases o.dst <;> rfl,fun S2=>by cases o.dst <;> rfl⟩
 unfold stp at h ⊢
 cases hg:o.guard with
 | none=>rw[hg] at h;exact zoe hi h
 | some p =>
  obtain⟨g,want⟩:=p
  rw[hg] at h
  dsimp only at h ⊢
  cases hv:e g with
  | bool b =>
   rw[hv] at h
   dsimp only at h ⊢
   split at h
   ·rename_i hb;simp only[if_pos hb];exact zoe hi h
   rename_i hb;simp only[if_neg hb];exact skip ac h
  | undef=>rw[hv] at h;exact skip ac h
  | _=>rw[hv] at h;cases h
end
section
variable [Base] {g g':Gh} {S S':Sto} {w w':World} {P:Program} {D:List Deferred}
def ztM (ops:List Oper) (A:Array Nat):Prop:=∀ i j,(A.getD i 0).testBit j=true→∃ o,ops[i]?=some o∧∃ e ∈ o.after.toList,Region.binds .any e=true∧(e.on=j∨(A.getD e.on 0).testBit j=true)
theorem zmg (A:Array Nat) (j:Nat):∀ (es:List Edge) (s:Nat),(es.foldl (fun s e=>if Region.binds .any e=true then s ||| 2 ^ e.on ||| A.getD e.on 0 else s) s).testBit j=true→s.testBit j=true∨∃ e ∈ es,Region.binds .any e=true∧(e.on=j∨(A.getD e.on 0).testBit j=true)
 | [],s,h=>.inl h
 | e::es,s,h=>by
  simp only[List.foldl_cons] at h
  rcases zmg A j es _ h with h1 | ⟨e',he,h1⟩
  ·split at h1
   ·rename_i hb
    rw[Nat.testBit_or,Nat.testBit_or,Nat.testBit_two_pow] at h1
    simp only[Bool.or_eq_true,decide_eq_true_eq] at h1
    rcases h1 with (h1 | h1) | h1
    ·exact .inl h1
    ·exact .inr ⟨e,by simp,hb,.inl h1⟩
    exact .inr ⟨e,by simp,hb,.inr h1⟩
   exact .inl h1
  exact .inr ⟨e',by simp[he],h1⟩
theorem zlT (A:Array Nat) (x:Nat) (i:Nat):(A.push x).getD i 0=if i=A.size then x else A.getD i 0:=by
 rw[Array.getD_eq_getD_getElem?,Array.getElem?_push]
 split
 ·simp
 rw[Array.getD_eq_getD_getElem?]
theorem zmb (ops:List Oper):∀ (l pre:List Oper) (A:Array Nat),ops=pre++l→A.size=pre.length→ztM ops A →
  ztM ops (l.foldl (fun acc o=>acc.push (o.after.toList.foldl (fun s e=>if Region.binds .any e=true then s ||| 2 ^ e.on ||| acc.getD e.on 0 else s) 0)) A)
 | [],pre,A,_,_,h=>h
 | o::l,pre,A,h1,h2,h=>by
  simp only[List.foldl_cons]
  refine zmb ops l (pre++[o]) _ (by simp[h1]) (by simp[h2]) ?_
  intro i j hb
  have hlt:∀ k,(A.getD k 0).testBit j=true→k < A.size:=by
   intro k hk
   rcases Nat.lt_or_ge k A.size with h | h
   ·exact h
   rw[Array.getD_eq_getD_getElem?,Array.getElem?_eq_none h] at hk
   simp at hk
  have lift:∀ k,(A.getD k 0).testBit j=true→((A.push (o.after.toList.foldl (fun s e=>if Region.binds .any e=true then s ||| 2 ^ e.on ||| A.getD e.on 0 else s) 0)).getD k 0).testBit j=true:=by
   intro k hk
   rw[zlT,if_neg (Nat.ne_of_lt (hlt k hk))]
   exact hk
  rw[zlT] at hb
  split at hb
  ·rename_i e
   rcases zmg A j _ _ hb with h0 | ⟨e',he,hbd,h3⟩
   ·simp at h0
   refine⟨o,by rw[h1,e,h2];simp,e',he,hbd,h3.imp id (lift _)⟩
  obtain⟨o',q1,e',q2,q3,q4⟩:=h i j hb
  exact⟨o',q1,e',q2,q3,q4.imp id (lift _)⟩
theorem zjB (ops:Array Oper):ztM ops.toList (CheckFast.beforeF ops):=by
 rw[CheckFast.beforeF_eq]
 unfold Region.before
 rw[←Array.foldl_toList]
 have:=zmb ops.toList ops.toList [] #[] rfl rfl (fun i j h=>by simp at h)
 have e:(fun (acc:Array Nat) (o:Oper)=>acc.push (o.after.foldl (fun s e=>if Region.binds .any e=true then s ||| 2 ^ e.on ||| acc.getD e.on 0 else s) 0))=fun acc o=>acc.push (o.after.toList.foldl (fun s e=>if Region.binds .any e=true then s ||| 2 ^ e.on ||| acc.getD e.on 0 else s) 0):=by
  funext acc o
  rw[Array.foldl_toList]
 rw[e]
 exact this
theorem zb5 {α:Type} {l:List α} {f:α × Nat→Bool} (h:(l.zipIdx).all f=true) {i:Nat} {o:α} (hi:l[i]?=some o):f (o,i)=true:=by
 rw[List.all_eq_true] at h
 exact h (o,i) (List.mk_mem_zipIdx_iff_getElem?.2 hi)
theorem zfn {n:Nat} {ops:Array Oper}:∀ (ol:List Oper) (l:List SOper),zbg P n ops ol=some l→l.length=ol.length∧∀ (i:Nat) (o:Oper),ol[i]?=some o→∃ so,l[i]?=some so∧zgf P n ops o=some so
 | [],l,h=>by
  simp only[zbg,Option.some.injEq] at h
  subst h
  exact⟨rfl,fun i o h=>by simp at h⟩
 | o::ol,l,h=>by
  simp only[zbg] at h
  split at h
  ·rename_i so sl ho hl
   obtain rfl:=Option.some.inj h
   obtain⟨h1,h2⟩:=zfn ol sl hl
   refine⟨by simp[h1],fun i o' hi=>?_⟩
   cases i with
   | zero=>simp at hi;subst hi;exact⟨so,rfl,ho⟩
   | succ i=>simpa using h2 i o' (by simpa using hi)
  cases h
theorem zpD {cl:zi}:∀ (l:List SOper) (tot:List Bool) (ac acN:Ac),evD cl l tot ac=.nor acN→∃ s:Nat→Ac,s 0=ac∧s l.length=acN∧∀ i o,l[i]?=some o→stp cl false o (s i)=.ok (s (i+1))∧(tot.getD i false=true∨(s (i+1)).S=(s i).S)
 | [],tot,ac,acN,h=>by
  simp only[evD,EO.nor.injEq] at h
  exact⟨fun _=>ac,rfl,h,fun i o h=>by simp at h⟩
 | o::l,tot,ac,acN,h=>by
  simp only[evD] at h
  split at h
  ·rename_i ac' hs
   split at h
   ·rename_i ht
    obtain⟨s,h1,h2,h3⟩:=zpD l tot.tail ac' acN h
    refine⟨fun i=>match i with | 0=>ac | i+1=>s i,rfl,h2,fun i o' hi=>?_⟩
    cases i with
    | zero =>
     simp at hi
     subst hi
     dsimp only
     simp only[Nat.zero_add,h1]
     refine⟨hs,?_⟩
     cases tot with
     | nil=>simpa using ht
     | cons t tot=>simpa using ht
    | succ i =>
     have:=h3 i o' (by simpa using hi)
     refine⟨this.1,?_⟩
     cases tot with
     | nil=>simpa using this.2
     | cons t tot=>simpa using this.2
   cases h
  cases h
theorem zlp {n:Nat} {a:Act}:∀ (l:List SOper) (ac:Ac) (g:Gh),zar D n g ac a w→∃ g',zar D n g' (prep l ac) a w∧Tr g w g' w∧(prep l ac).S.length=ac.S.length∧(∀ t,za1 g 0 t→za1 g' 0 t)∧∀ o ∈ l,∀ d z,o.dst=some d→o.op=.alloc z→za1 g' 0 d
 | [],ac,g,hr=>⟨g,hr,Tr.refl g w,rfl,fun _ h=>h,fun o ho=>by cases ho⟩
 | o::l,ac,g,hr=>by
  have keep:∀ t d,za1 g 0 t→za1 (g.kill d) 0 t:=by
   intro t d hb
   refine⟨?_,fun i=>?_⟩
   ·simp only[Gh.kill];split
    ·rfl
    exact hb.1
   simp only[Gh.kill];split
   ·rfl
   exact hb.2 i
  have kills:∀ d,zar D n (g.kill d) (ac.kill d) a w:=fun d=>⟨hr.rel.kill d,hr.size,hr.defers,by show 0 < (killS d ac.S).length;rw[za8];exact hr.ne⟩
  have bared:∀ d,za1 (g.kill d) 0 d:=fun d=>⟨zg4 g d,fun i=>zfL g rfl⟩
  have done:∀ ac1 g1,zar D n g1 ac1 a w→Tr g w g1 w→ac1.S.length=ac.S.length→(∀ t,za1 g 0 t→za1 g1 0 t)→(∀ d z,o.dst=some d→o.op=.alloc z→za1 g1 0 d)→prep (o::l) ac=prep l ac1 →
    ∃ g',zar D n g' (prep (o::l) ac) a w∧Tr g w g' w∧(prep (o::l) ac).S.length=ac.S.length∧(∀ t,za1 g 0 t→za1 g' 0 t)∧∀ o' ∈ o::l,∀ d z,o'.dst=some d→o'.op=.alloc z→za1 g' 0 d:=by
   intro ac1 g1 h1 h2 h3 h4 h5 h6
   obtain⟨g',q1,q2,q3,q4,q5⟩:=zlp l ac1 g1 h1
   rw[h6]
   refine⟨g',q1,h2.trans q2,q3.trans h3,fun t ht=>q4 t (h4 t ht),fun o' ho d z hd hz=>?_⟩
   rcases List.mem_cons.1 ho with rfl | ho
   ·exact q4 d (h5 d z hd hz)
   exact q5 o' ho d z hd hz
  obtain⟨dst,guard,op⟩:=o
  cases dst with
  | none=>exact done ac g hr (Tr.refl g w) rfl (fun _ h=>h) (fun d z hd=>by cases hd) (by cases op <;> rfl)
  | some d =>
   have plainKill:prep (⟨some d,guard,op⟩::l) ac=prep l (ac.kill d)→(∀ z,op≠.alloc z)→_:=fun h hz=>done (ac.kill d) (g.kill d) (kills d) (Tr.kill g w d) (za8 d ac.S) (fun t=>keep t d) (fun d' z hd hz'=>absurd hz' (hz z)) h
   cases op with
   | alloc z =>
    refine done ⟨zdy d ac.e,newBox d z (killS d ac.S)⟩ (g.kill d) ⟨⟨(kills d).rel.wr.congr (fun m t b hb=>?_) (fun m k ai ha=>?_),(kills d).rel.env⟩,hr.size,hr.defers,by rw[zfa,za8];exact hr.ne⟩ (Tr.kill g w d) (by rw[zfa,za8]) (fun t=>keep t d) (fun d' z' hd _=>by cases hd;exact bared d) rfl
    ·rw[zhv,if_neg]
     ·rfl
     rintro ⟨rfl,rfl,_⟩
     rw[zg4] at hb
     cases hb
    show getArr (newBox d z (killS d ac.S)) m k=getArr (killS d ac.S) m k
    apply zfK
    rintro rfl j rfl
    have:=zfL g (d:=d) (k:=.cell d j) rfl
    rw[this] at ha
    cases ha
   | call f xs=>exact plainKill rfl (fun z h=>by cases h)
   | append s b x y=>exact plainKill rfl (fun z h=>by cases h)
   | nilv s=>exact plainKill rfl (fun z h=>by cases h)
   | v o=>exact done ac g hr (Tr.refl g w) rfl (fun _ h=>h) (fun d z _ hz=>by cases hz) rfl
   | box x=>exact done ac g hr (Tr.refl g w) rfl (fun _ h=>h) (fun d z _ hz=>by cases hz) rfl
   | bslice s n z p=>exact done ac g hr (Tr.refl g w) rfl (fun _ h=>h) (fun d z _ hz=>by cases hz) rfl
   | store k x v=>exact done ac g hr (Tr.refl g w) rfl (fun _ h=>h) (fun d z _ hz=>by cases hz) rfl
   | w o=>exact done ac g hr (Tr.refl g w) rfl (fun _ h=>h) (fun d z _ hz=>by cases hz) rfl
   | panic x=>exact done ac g hr (Tr.refl g w) rfl (fun _ h=>h) (fun d z _ hz=>by cases hz) rfl
end
end Go.Proofs.YtfbcnpbhhooapaaGreatDoor.M
namespace Go.Proofs.YtfbcnpbhhooapaaGreatDoor.M
open Go Classical
section
variable [Base] {P:Program} {D:List Deferred}
structure SeqD (cl:zi) (l:List SOper) (b:Array Nat) (s:Nat→Ac):Prop where
 step:∀ i o,l[i]?=some o→stp cl false o (s i)=.ok (s (i+1))∧(zgv b l i=true∨(s (i+1)).S=(s i).S)
 one:∀ (i j:Nat) (oi oj:SOper) (d:Nat),l[i]?=some oi→l[j]?=some oj→i≠j→oi.dst=some d→oj.dst≠some d
 look:∀ (i j:Nat) (oi oj:SOper) (t:Nat),l[i]?=some oi→l[j]?=some oj→i≠j→t ∈ oi.looks→oj.dst=some t→zhi b i j=true
theorem zuC (b:Array Nat) (i j:Nat):zhi b i j=zhi b j i:=by
 unfold zhi
 rw[Nat.max_comm,Nat.min_comm]
section
variable [Base] {cl:zi} {l:List SOper} {b:Array Nat} {s:Nat→Ac}
def zbk (l:List SOper) (i:Nat):Option Nat:=(l[i]?).bind (·.dst)
def Ty (b:Array Nat) (l:List SOper) (i:Nat):Prop:=∃ o,l[i]?=some o∧o.op.inert=false∧zgv b l i=true
theorem zpy {i j:Nat} {oj:SOper} (h:zgv b l i=true) (hj:l[j]?=some oj) (hne:j≠i) (hi:oj.op.inert=false):zhi b i j=true:=by
 have:=zb5 h hj
 simpa [hne,hi] using this
theorem SeqD.put (h:SeqD cl l b s) {i:Nat} {o:SOper} (hi:l[i]?=some o):∃ v,s (i+1)=(({ e:=(s i).e,S:=(s (i+1)).S }:Ac).put o.dst v):=by
 obtain⟨v,hv,_⟩:=zih (e:=(s i).e) (S:=(s i).S) (e':=(s i).e) (fun _ _=>rfl) (h.step i o hi).1
 exact⟨v,hv⟩
theorem SeqD.keepE (h:SeqD cl l b s) {i:Nat} {o:SOper} (hi:l[i]?=some o) {t:Nat} (ht:o.dst≠some t):(s (i+1)).e t=(s i).e t:=by
 obtain⟨v,hv⟩:=h.put hi
 rw[hv]
 cases hd:o.dst with
 | none=>rfl
 | some d =>
  have:t≠d:=fun e=>ht (by rw[hd,e])
  simp[Ac.put,upd,this]
theorem SeqD.before (h:SeqD cl l b s) {t:Nat}:∀ i,i≤l.length→(∀ j,j < i→zbk l j≠some t)→(s i).e t=(s 0).e t
 | 0,_,_=>rfl
 | i+1,hi,hn=>by
  have hlt:i < l.length:=hi
  rw[h.keepE (List.getElem?_eq_getElem hlt) (fun e=>hn i (Nat.lt_succ_self i) (by simp[zbk,List.getElem?_eq_getElem hlt,e]))]
  exact h.before i (by omega) (fun j hj=>hn j (by omega))
theorem SeqD.behind (h:SeqD cl l b s) {t j:Nat} {oj:SOper} (hj:l[j]?=some oj) (hd:oj.dst=some t):∀ i,j < i→i≤l.length→(s i).e t=(s (j+1)).e t
 | 0,h0,_=>absurd h0 (Nat.not_lt_zero _)
 | i+1,h0,hi=>by
  rcases Nat.lt_or_ge j i with hlt | hge
  ·have hil:i < l.length:=hi
   rw[h.keepE (List.getElem?_eq_getElem hil) (h.one j i oj _ t hj (List.getElem?_eq_getElem hil) (by omega) hd)]
   exact h.behind hj hd i hlt (by omega)
  have:i=j:=by omega
  rw[this]
theorem SeqD.still (h:SeqD cl l b s) {i:Nat} (hi:i < l.length) (hT:¬ Ty b l i):(s (i+1)).S=(s i).S:=by
 have hio:=List.getElem?_eq_getElem hi
 obtain⟨h1,h2⟩:=h.step i _ hio
 cases hin:(l[i]).op.inert with
 | true=>exact (zlU (e:=(s i).e) (S:=(s i).S) hin h1).1
 | false =>
  rcases h2 with h2 | h2
  ·exact absurd ⟨_,hio,hin,h2⟩ hT
  exact h2
theorem SeqD.stills (h:SeqD cl l b s) {i:Nat}:∀ j,i≤j→j≤l.length→(∀ k,i≤k→k < j→¬ Ty b l k)→(s j).S=(s i).S
 | 0,h0,_,_=>by rw[show i=0 by omega]
 | j+1,h0,hj,hT=>by
  rcases Nat.lt_or_ge i (j+1) with hlt | hge
  ·rw[h.still (i:=j) hj (hT j (by omega) (Nat.lt_succ_self j))]
   exact h.stills j (by omega) (by omega) (fun k h1 h2=>hT k h1 (by omega))
  rw[show i=j+1 by omega]
end
noncomputable def ef (l:List SOper) (s:Nat→Ac) (L:Array Bool):Nat→PV:=fun t=>if ∃ i,L.getD i false=true∧zbk l i=some t then (s l.length).e t else (s 0).e t
structure DI (D:List Deferred) (P:Program) (n:Nat) (l:List SOper) (b:Array Nat) (s:Nat→Ac) (g0:Gh) (w0:World) (ziL:Nat) (L:Array Bool) (m:Nat) (g:Gh) (a:Act) (w:World):Prop where
 size:L.size=l.length
 closed:∀ i j,L.getD i false=true→(b.getD i 0).testBit j=true→L.getD j false=true
 mle:m≤l.length
 mark:∀ i,Ty b l i→(L.getD i false=true↔i < m)
 rel:zar D n g ⟨ef l s L,(s m).S⟩ a w
 bare:∀ (i:Nat) (o:SOper) (d:Nat) (z:List PV),l[i]?=some o→L.getD i false=false→o.dst=some d→o.op=.alloc z→za1 g 0 d
 tr:Tr g0 w0 g w
 len:(s m).S.length=ziL
theorem zfr {L:Array Bool} {i:Nat} (h:L.getD i true=false):L.getD i false=false∧i < L.size:=by
 rw[Array.getD_eq_getD_getElem?] at h ⊢
 cases hi:L[i]? with
 | none=>rw[hi] at h;simp at h
 | some x=>rw[hi] at h;exact⟨by simpa using h,(Array.getElem?_eq_some_iff.1 hi).1⟩
theorem zgJ {L:Array Bool} {i:Nat} (h:L.getD i false=false) (hi:i < L.size):L.getD i true=false:=by
 rw[Array.getD_eq_getD_getElem?] at h ⊢
 rw[Array.getElem?_eq_getElem hi] at h ⊢
 simpa using h
theorem zco {L:Array Bool} {i:Nat} (h:i < L.size):(L.setIfInBounds i true).getD i false=true:=by
 rw[Array.getD_eq_getD_getElem?]
 simp[h]
theorem zrm {a b:Ac} (h1:a.e=b.e) (h2:a.S=b.S):a=b:=by
 cases a
 cases b
 simp only at h1 h2
 rw[h1,h2]
theorem zxG {S:Sto} {k:Option Nat} {p v:PV} (h:ld [] k p=some v):ld S k p=some v:=by
 cases p <;> first | exact h | (simp[ld,getBox,getArr] at h)
theorem ztd {S:Sto} {p:PV} {r:Nat × List (List PV) × Bool} (h:view [] p=some r):view S p=some r:=by
 cases p <;> first | exact h | (simp[view,getArr] at h)
theorem zt0 {ev:X→PV} {o:VO} {v:PV} (h:vop ev [] o=some v) (S:Sto):vop ev S o=some v:=by
 cases o <;> try exact h
 case load k x=>exact zxG h
 case conv c x =>
  cases c <;> first | (simp only[vop,convP] at h ⊢;exact h) | (cases hx:ev x <;> simp only[vop,convP,hx] at h ⊢ <;> exact h) | skip
  show convP S .bytes (ev x)=some v
  have h':convP [] .bytes (ev x)=some v:=h
  unfold convP at h' ⊢
  dsimp only at h' ⊢
  cases hv:view [] (ev x) with
  | none=>rw[hv] at h';cases h'
  | some r=>rw[hv] at h';rw[ztd hv];exact h'
 case faddr off x =>
  simp only[vop] at h ⊢
  cases hx:ev x <;> rw[hx] at h <;> first | exact h | (simp[getArr] at h)
 case iaddr sz x i =>
  simp only[vop,iaddrP] at h ⊢
  cases hi:ev i <;> rw[hi] at h <;> try exact h
  dsimp only at h ⊢
  split at h
  ·rename_i h0
   rw[if_pos h0]
   cases hx:ev x <;> rw[hx] at h <;> first | exact h | (simp[getArr] at h)
  cases h
 case slc sz x lo hi mx =>
  simp only[vop,slcP] at h ⊢
  cases hx:ev x <;> rw[hx] at h <;> first | exact h | (simp[getArr] at h)
 case len s x =>
  simp only[vop] at h ⊢
  cases s with
  | true=>exact h
  | false =>
   simp only[Bool.false_eq_true,if_false,lenP] at h ⊢
   cases hx:ev x <;> rw[hx] at h <;> first | exact h | (simp[getArr] at h)
theorem zmZ {cl:zi} {kd:Bool} {o:SOper} {ac ac':Ac} (h:stp cl kd (zaK o) ac=.ok ac'):stp cl kd o ac=.ok ac':=by
 obtain⟨d,gu,op⟩:=o
 cases op <;> try exact h
 rename_i v
 unfold zaK at h
 dsimp only at h
 split at h
 ·exact h
 have key:ex cl kd d (.w v) ac=.ok ac'→ex cl kd d (.v v) ac=.ok ac':=by
  intro h
  simp only[ex] at h ⊢
  cases hv:vop ac.ev [] v with
  | none=>rw[hv] at h;cases h
  | some u=>rw[hv] at h;rw[zt0 hv];exact h
 unfold stp at h ⊢
 cases gu with
 | none=>exact key h
 | some g =>
  dsimp only at h ⊢
  cases hg:ac.e g.1 <;> rw[hg] at h <;> try exact h
  dsimp only at h ⊢
  split at h
  ·rename_i hb;rw[if_pos hb];exact key h
  rename_i hb;rw[if_neg hb];exact h
theorem zow {cl:zi} {kd:Bool} {o:SOper} {ac:Ac} {v:PV} {S:Sto} (h:stp cl kd (zaK o) ac=.pan v S):stp cl kd o ac=.pan v S:=by
 obtain⟨d,gu,op⟩:=o
 cases op <;> try exact h
 rename_i u
 unfold zaK at h
 dsimp only at h
 split at h
 ·exact h
 exfalso
 have key:ex cl kd d (.w u) ac≠.pan v S:=by
  simp only[ex]
  cases vop ac.ev [] u <;> (intro h;cases h)
 unfold stp at h
 cases gu with
 | none=>exact key h
 | some g =>
  dsimp only at h
  cases hg:ac.e g.1 <;> rw[hg] at h <;> try cases h
  dsimp only at h
  split at h
  ·exact key h
  cases h
theorem zfm (o:SOper):(zaK o).dst=o.dst∧((zaK o).op=o.op∨∃ v,o.op=.v v∧(zaK o).op=.w v):=by
 obtain⟨d,gu,op⟩:=o
 cases op <;> try exact⟨rfl,.inl rfl⟩
 unfold zaK
 dsimp only
 split
 ·exact⟨rfl,.inl rfl⟩
 exact⟨rfl,.inr ⟨_,rfl,rfl⟩⟩
def CodeOf (P:Program) (n:Nat) (ops:Array Oper) (l:List SOper):Prop:=l.length=ops.toList.length∧∀ (i:Nat) (o:Oper),ops.toList[i]?=some o→∃ so s0,l[i]?=some so∧zgf P n ops o=some s0∧(so=s0∨so=zaK s0)
theorem CodeOf.hard {n:Nat} {ops:Array Oper} {l:List SOper} (hc:zbg P n ops ops.toList=some l):CodeOf P n ops l:=by
 obtain⟨h1,h2⟩:=zfn ops.toList l hc
 exact⟨h1,fun i o hi=>by obtain⟨so,q1,q2⟩:=h2 i o hi;exact⟨so,so,q1,q2,.inl rfl⟩⟩
theorem CodeOf.soft {n:Nat} {ops:Array Oper} {l:List SOper} (hc:zbg P n ops ops.toList=some l):CodeOf P n ops (l.map zaK):=by
 obtain⟨h1,h2⟩:=zfn ops.toList l hc
 exact⟨by simpa using h1,fun i o hi=>by obtain⟨so,q1,q2⟩:=h2 i o hi;exact⟨zaK so,so,by rw[List.getElem?_map,q1];rfl,q2,.inr rfl⟩⟩
theorem zx6 {cl:zi} (hcl:zak P cl) {n:Nat} {ops:Array Oper} {l:List SOper} (hc:CodeOf P n ops l) {b:Array Nat} (hb:b=CheckFast.beforeF ops) (hfw:zkE ops=true) {s:Nat→Ac} (hs:SeqD cl l b s) {g0:Gh} {w0:World} {ziL:Nat} {Q:Exit→Act→World→Prop}
  (hQ:∀ a w g,zar D n g (s l.length) a w→Tr g0 w0 g w→(s l.length).S.length=ziL→Q .normal a w) :
  ∀ (fuel:Nat) (R:List Nat) (L:Array Bool) (m:Nat) (g:Gh) (a:Act) (w:World),DI D P n l b s g0 w0 ziL L m g a w→R.length≤fuel→(∀ j,j < l.length→L.getD j true=false→j ∈ R)→wpAny P .any ops Q fuel L a w:=by
 obtain⟨hll,hget⟩:=hc
 have hN:ops.size=l.length:=by rw[hll];simp
 have hgood:=zjB ops
 rw[←hb] at hgood
 have hend:∀ L m g a w,DI D P n l b s g0 w0 ziL L m g a w→Region.ready .any ops L=[]→Q .normal a w:=by
  intro L m g a w hd hr
  have hall:∀ k i,i≤k→i < l.length→L.getD i false=true:=by
   intro k
   induction k with
   | zero =>
    intro i hi hl
    refine Decidable.byContradiction fun hcon=>?_
    have h0:L.getD i true=false:=zgJ (by simpa using hcon) (by rw[hd.size];exact hl)
    have:i ∈ Region.ready .any ops L:=by
     rw[mem_ready]
     refine⟨h0,ops[i],Array.getElem?_eq_getElem (by omega),fun e he hbd=>?_⟩
     have:=zb5 hfw (i:=i) (o:=ops[i]) (by simp[hN,hl])
     rw[List.all_eq_true] at this
     have:=this e (by simpa using he)
     simp[hbd] at this
     omega
    rw[hr] at this
    cases this
   | succ k ih =>
    intro i hi hl
    refine Decidable.byContradiction fun hcon=>?_
    have h0:L.getD i true=false:=zgJ (by simpa using hcon) (by rw[hd.size];exact hl)
    have:i ∈ Region.ready .any ops L:=by
     rw[mem_ready]
     refine⟨h0,ops[i],Array.getElem?_eq_getElem (by omega),fun e he hbd=>?_⟩
     have:=zb5 hfw (i:=i) (o:=ops[i]) (by simp[hN,hl])
     rw[List.all_eq_true] at this
     have:=this e (by simpa using he)
     simp[hbd] at this
     exact ih e.on (by omega) (by omega)
    rw[hr] at this
    cases this
  have hS:(s m).S=(s l.length).S:=by
   refine (hs.stills l.length hd.mle (Nat.le_refl _) fun k h1 h2 hT=>?_).symm
   have:=(hd.mark k hT).1 (hall k k (Nat.le_refl _) h2)
   omega
  have hE:ef l s L=(s l.length).e:=by
   funext t
   unfold ef
   split
   ·rfl
   rename_i hno
   refine (hs.before l.length (Nat.le_refl _) fun j hj e=>hno ⟨j,hall j j (Nat.le_refl _) hj,e⟩).symm
  have hr:=hd.rel
  rw[hE,hS] at hr
  exact hQ a w g hr hd.tr (by rw[←hS];exact hd.len)
 intro fuel
 induction fuel with
 | zero =>
  intro R L m g a w hd hR hun
  have hR0:R=[]:=List.eq_nil_of_length_eq_zero (by omega)
  have hr:Region.ready .any ops L=[]:=by
   apply List.eq_nil_iff_forall_not_mem.2
   intro i hi
   rw[mem_ready] at hi
   obtain⟨h1,o,h2,_⟩:=hi
   have:=hun i (by rw[←hN];exact (Array.getElem?_eq_some_iff.1 h2).1) h1
   rw[hR0] at this
   cases this
  exact⟨hr,hend L m g a w hd hr⟩
 | succ fuel ih =>
  intro R L m g a w hd hR hun
  refine⟨hend L m g a w hd,fun i hi=>?_⟩
  rw[mem_ready] at hi
  obtain⟨h1,o,h2,hdep⟩:=hi
  obtain⟨hin,hiL⟩:=zfr h1
  have hil:i < l.length:=by rw[←hd.size];exact hiL
  obtain⟨so,s0,hso,hco,hos⟩:=hget i o (by simpa using h2)
  have hde:so.dst=s0.dst:=by
   rcases hos with rfl | rfl
   ·rfl
   exact (zfm s0).1
  have hbef:∀ j,(b.getD i 0).testBit j=true→L.getD j false=true:=by
   intro j hj
   obtain⟨o',q1,e,q2,q3,q4⟩:=hgood i j hj
   have:o=o':=by
    have:ops.toList[i]?=some o:=by simpa using h2
    rw[this] at q1
    exact Option.some.inj q1
   subst this
   have hon:=hdep e (by simpa using q2) q3
   rcases q4 with q4 | q4
   ·rw[←q4];exact hon
   exact hd.closed _ _ hon q4
  have hcmp:∀ j,zhi b i j=true→j≠i→(L.getD j false=true↔j < i):=by
   intro j hj hne
   unfold zhi at hj
   constructor
   ·intro hL
    refine Decidable.byContradiction fun hge=>?_
    have h3:max i j=j:=by omega
    have h4:min i j=i:=by omega
    rw[h3,h4] at hj
    have:=hd.closed j i hL hj
    rw[hin] at this
    cases this
   intro hlt
   have h3:max i j=i:=by omega
   have h4:min i j=j:=by omega
   rw[h3,h4] at hj
   exact hbef j hj
  have hag:zcF (s i).e (ef l s L) so.looks:=by
   intro t ht
   have key:(∃ j,L.getD j false=true∧zbk l j=some t)↔∃ j,j < i∧zbk l j=some t:=by
    constructor
    ·rintro ⟨j,hj1,hj2⟩
     cases hlj:l[j]? with
     | none=>simp[zbk,hlj] at hj2
     | some oj =>
      have hne:j≠i:=fun e=>by rw[e] at hj1;rw[hin] at hj1;cases hj1
      simp only[zbk,hlj,Option.bind_some] at hj2
      exact⟨j,(hcmp j (hs.look i j so oj t hso hlj (Ne.symm hne) ht hj2) hne).1 hj1,by simp[zbk,hlj,hj2]⟩
    rintro ⟨j,hj1,hj2⟩
    cases hlj:l[j]? with
    | none=>simp[zbk,hlj] at hj2
    | some oj =>
     simp only[zbk,hlj,Option.bind_some] at hj2
     exact⟨j,(hcmp j (hs.look i j so oj t hso hlj (by omega) ht hj2) (by omega)).2 hj1,by simp[zbk,hlj,hj2]⟩
   unfold ef
   by_cases hex:∃ j,j < i∧zbk l j=some t
   ·rw[if_pos (key.2 hex)]
    obtain⟨j,hj1,hj2⟩:=hex
    cases hlj:l[j]? with
    | none=>simp[zbk,hlj] at hj2
    | some oj =>
     simp only[zbk,hlj,Option.bind_some] at hj2
     rw[hs.behind hlj hj2 i hj1 (by omega),hs.behind hlj hj2 l.length (by omega) (Nat.le_refl _)]
   rw[if_neg (fun h=>hex (key.1 h))]
   exact hs.before i (by omega) fun j hj e=>hex ⟨j,hj,e⟩
  have hSi:so.op.inert=false→(s i).S=(s m).S:=by
   intro hni
   have hno:∀ k,Ty b l k→k≠i→(k < m↔k < i):=by
    rintro k ⟨ok,hk1,hk2,hk3⟩ hne
    have hc1:=zpy hk3 hso (Ne.symm hne) hni
    rw[zuC] at hc1
    rw[←hd.mark k ⟨ok,hk1,hk2,hk3⟩]
    exact hcmp k hc1 hne
   rcases Nat.lt_or_ge i m with hlt | hge
   ·refine (hs.stills m (by omega) hd.mle fun k k1 k2 hT=>?_).symm
    by_cases e:k=i
    ·subst e
     have:=(hd.mark k hT).2 hlt
     rw[hin] at this
     cases this
    have:=(hno k hT e).1 k2
    omega
   refine hs.stills i hge (by omega) fun k k1 k2 hT=>?_
   have:=(hno k hT (by omega)).2 k2
   omega
  obtain⟨hst,htt⟩:=hs.step i so hso
  obtain⟨v,hv1,hv2⟩:=zih (e:=(s i).e) (S:=(s i).S) (e':=ef l s L) hag hst
  obtain⟨m',hm1,hm2,hstep,hmS⟩:∃ m',m'≤l.length∧(∀ k,Ty b l k→((L.setIfInBounds i true).getD k false=true↔k < m'))∧stp cl false so ⟨ef l s L,(s m).S⟩=.ok (({ e:=ef l s L,S:=(s m').S }:Ac).put so.dst v)∧True:=by
   have hset:∀ k,k≠i→((L.setIfInBounds i true).getD k false=true↔L.getD k false=true):=fun k hk=>by rw[getD_set_ne false (Ne.symm hk)]
   by_cases hT:Ty b l i
   ·obtain⟨oi,q1,q2,q3⟩:=hT
    rw[hso] at q1
    obtain rfl:=Option.some.inj q1
    refine⟨i+1,hil,fun k hTk=>?_,?_,trivial⟩
    ·by_cases e:k=i
     ·subst e
      exact⟨fun _=>Nat.lt_succ_self k,fun _=>zco hiL⟩
     rw[hset k e]
     obtain⟨ok,hk1,hk2,hk3⟩:=hTk
     rw[hcmp k (zpy q3 hk1 e hk2) e]
     omega
    rw[←hSi q2]
    exact hv2
   refine⟨m,hd.mle,fun k hTk=>?_,?_,trivial⟩
   ·have e:k≠i:=fun e=>hT (by rw[←e];exact hTk)
    rw[hset k e]
    exact hd.mark k hTk
   cases hin':so.op.inert with
   | true =>
    obtain⟨_,h3⟩:=zlU (e:=ef l s L) (S:=(s i).S) hin' hv2
    have:=h3 (s m).S
    rw[this]
    cases so.dst <;> rfl
   | false =>
    have hE:=hSi hin'
    have hE2:(s (i+1)).S=(s i).S:=hs.still hil hT
    rw[hE2,hE] at hv2
    exact hv2
  have hres:=ziz hcl hco (kd:=false) hd.rel (fun _ d z hdd hz=>hd.bare i so d z hso hin (hde.trans hdd) (by
   rcases hos with rfl | rfl
   ·exact hz
   rcases (zfm s0).2 with h | ⟨v,h,_⟩
   ·rw[h];exact hz
   rw[h] at hz;cases hz))
  have hstep0:stp cl false s0 ⟨ef l s L,(s m).S⟩=.ok (({ e:=ef l s L,S:=(s m').S }:Ac).put so.dst v):=by
   rcases hos with rfl | rfl
   ·exact hstep
   exact zmZ hstep
  rw[hstep0] at hres
  obtain⟨_,hdst,hdn,_⟩:=zc2 hco
  rw[←hde] at hdst
  have hdo:=hres (wpAny P .any ops Q fuel (L.setIfInBounds i true)) Q (fun c w' g' hstp=>by
   have hra:=hstp.relA hd.rel hdn
   have heq:(({ e:=ef l s L,S:=(s m').S }:Ac).put so.dst v)=⟨ef l s (L.setIfInBounds i true),(s m').S⟩:=by
    have hE:(({ e:=ef l s L,S:=(s m').S }:Ac).put so.dst v).e=ef l s (L.setIfInBounds i true):=by
     funext t
     by_cases e:so.dst=some t
     ·have h4:(({ e:=ef l s L,S:=(s m').S }:Ac).put so.dst v).e t=v:=by rw[e];simp[Ac.put,upd]
      have h5:(s (i+1)).e t=v:=by rw[hv1,e];simp[Ac.put,upd]
      rw[h4]
      unfold ef
      rw[if_pos ⟨i,zco hiL,by simp[zbk,hso,e]⟩]
      rw[hs.behind hso e l.length hil (Nat.le_refl _),h5]
     have h4:(({ e:=ef l s L,S:=(s m').S }:Ac).put so.dst v).e t=ef l s L t:=by
      cases hd':so.dst with
      | none=>rfl
      | some d =>
       have:t≠d:=fun e'=>e (by rw[hd',e'])
       simp[Ac.put,upd,this]
     rw[h4]
     unfold ef
     have:(∃ k,L.getD k false=true∧zbk l k=some t)↔∃ k,(L.setIfInBounds i true).getD k false=true∧zbk l k=some t:=by
      constructor
      ·rintro ⟨k,k1,k2⟩
       exact⟨k,getD_set_true k1,k2⟩
      rintro ⟨k,k1,k2⟩
      refine⟨k,?_,k2⟩
      by_cases ek:k=i
      ·subst ek
       simp only[zbk,hso,Option.bind_some] at k2
       exact absurd k2 e
      rwa [getD_set_ne false (Ne.symm ek)] at k1
     by_cases hh:∃ k,L.getD k false=true∧zbk l k=some t
     ·rw[if_pos hh,if_pos (this.1 hh)]
     rw[if_neg hh,if_neg (fun h=>hh (this.2 h))]
    have hSS:(({ e:=ef l s L,S:=(s m').S }:Ac).put so.dst v).S=(s m').S:=by cases so.dst <;> rfl
    exact zrm hE hSS
   rw[heq] at hra hstp
   refine ih (R.erase i) _ m' g' _ w' ⟨by simp[hd.size],?_,hm1,hm2,hra,?_,hd.tr.trans hstp.tr,?_⟩ ?_ ?_
   ·intro p q hp hq
    by_cases e:p=i
    ·subst e
     exact getD_set_true (hbef q hq)
    rw[getD_set_ne false (Ne.symm e)] at hp
    exact getD_set_true (hd.closed p q hp hq)
   ·intro p op d z hp hpL hpd hpz
    have e:p≠i:=fun e=>by subst e;rw[zco hiL] at hpL;cases hpL
    rw[getD_set_ne false (Ne.symm e)] at hpL
    refine (hstp.ext rfl).2.2 d ?_ (hd.bare p op d z hp hpL hpd hpz)
    rw[←hdst]
    exact hs.one p i op so d hp hso e hpd
   ·have:=hstp.len
    rw[←hd.len]
    exact this
   ·have hmem:=hun i hil h1
    rw[List.length_erase_of_mem hmem]
    omega
   intro j hj hjL
   have e:j≠i:=fun e=>by
    subst e
    have:=(zfr hjL).1
    rw[zco hiL] at this
    cases this
   rw[getD_set_ne true (Ne.symm e)] at hjL
   exact (List.mem_erase_of_ne e).2 (hun j hj hjL))
  unfold wpOp
  rw[h2]
  unfold zer at hdo
  dsimp only
  split
  ·rename_i hw
   rw[if_pos hw] at hdo
   exact .inl hdo
  rename_i hw
  rw[if_neg hw] at hdo
  exact hdo
theorem zjf {cl:zi}:∀ (l:List SOper) (tot:List Bool) (ac:Ac) (r:EO),(∀ ac',r≠.nor ac')→r≠.bad→evD cl l tot ac≠r
 | [],tot,ac,r,h1,h2=>by simp only[evD];exact fun e=>h1 ac e.symm
 | o::l,tot,ac,r,h1,h2=>by
  simp only[evD]
  split
  ·split
   ·exact zjf l _ _ r h1 h2
   exact fun e=>h2 e.symm
  exact fun e=>h2 e.symm
theorem zpg {cl:zi} (hcl:zak P cl) (hm:P.follows .mixedOrders=true) {n id:Nat} {ops:Array Oper} {l:List SOper} (hc:CodeOf P n ops l) (hdr:zkf ops l (CheckFast.beforeF ops)=true) {g:Gh} {ac:Ac} {a:Act} {w:World} {Q:Exit→Act→World→Prop} (hr:zar D n g ac a w)
  (hp:EPost D n g ac.S.length w Q (evD cl l ((List.range l.length).map (zgv (CheckFast.beforeF ops) l)) (prep l ac))):(Code.region id ops true).wp P Q a w:=by
 obtain⟨g1,hr1,ht1,hl1,_,hb1⟩:=zlp l ac g hr
 have hN:ops.size=l.length:=by rw[hc.1];simp
 apply wp_region_any hm
 cases hev:evD cl l ((List.range l.length).map (zgv (CheckFast.beforeF ops) l)) (prep l ac) with
 | nor acN =>
  rw[hev] at hp
  obtain⟨s,s0,sN,hs⟩:=zpD l _ _ acN hev
  unfold zkf at hdr
  simp only[Bool.and_eq_true] at hdr
  obtain⟨hd1,hd2,hd3⟩:=hdr
  have hseq:SeqD cl l (CheckFast.beforeF ops) s:=by
   refine⟨fun i o hi=>⟨(hs i o hi).1,(hs i o hi).2.imp (fun h=>?_) (fun h=>h)⟩,fun i j oi oj d hi hj hne hdi hdj=>?_,fun i j oi oj t hi hj hne ht hdj=>?_⟩
   ·have hlt:=(List.getElem?_eq_some_iff.1 hi).1
    rw[List.getD_eq_getElem?_getD,List.getElem?_map,List.getElem?_range hlt] at h
    simpa using h
   ·have h1:=zb5 hd1 hi
    have h2:=zb5 h1 hj
    have hne':¬ j=i:=Ne.symm hne
    simp[hne',hdi,hdj] at h2
   have h1:=zb5 hd2 hi
   rw[List.all_eq_true] at h1
   have h2:=zb5 (h1 t ht) hj
   have hne':¬ j=i:=Ne.symm hne
   simpa [hne',hdj] using h2
  have hr2:zar D n g1 (prep l ac) a { w with drawn:=w.drawn+1 }:=⟨⟨hr1.rel.wr.drawn _,hr1.rel.env⟩,hr1.size,hr1.defers,hr1.ne⟩
  have ht2:Tr g w g1 { w with drawn:=w.drawn+1 }:=⟨ht1.os,ht1.tape,ht1.output,ht1.size,ht1.fz,ht1.keep,ht1.new,ht1.out⟩
  have hno:∀ i,(Array.replicate ops.size false).getD i false=false:=by
   intro i
   rw[Array.getD_eq_getD_getElem?,Array.getElem?_replicate]
   split <;> rfl
  refine zx6 (D:=D) hcl hc rfl hd3 hseq (g0:=g) (w0:=w) (ziL:=ac.S.length) (fun a' w' g' h1 h2 h3=>?_) ops.size (List.range l.length) _ 0 g1 a _ ⟨by simp[hN],(fun i j h=>by rw[hno] at h;cases h),Nat.zero_le _,fun i _=>⟨(fun h=>by rw[hno] at h;cases h),fun h=>absurd h (Nat.not_lt_zero _)⟩,?_,?_,ht2,?_⟩ (by simp[hN]) (fun j hj _=>List.mem_range.2 hj)
  ·rw[sN] at h1 h3
   exact hp a' w' g' h1 h2 h3
  ·have:(⟨ef l s (Array.replicate ops.size false),(s 0).S⟩:Ac)=prep l ac:=by
    rw[s0]
    have:ef l s (Array.replicate ops.size false)=(prep l ac).e:=by
     funext t
     unfold ef
     rw[if_neg,s0]
     rintro ⟨i,h,_⟩
     rw[hno] at h
     cases h
    rw[this]
   rw[this]
   exact hr2
  ·intro i o d z hi _ hd hz
   exact hb1 o (List.mem_of_getElem? hi) d z hd hz
  rw[s0];exact hl1
 | ext i ac'=>exact absurd hev (zjf _ _ _ _ (by intro ac h;cases h) (by intro h;cases h))
 | ret ac'=>exact absurd hev (zjf _ _ _ _ (by intro ac h;cases h) (by intro h;cases h))
 | pan v S=>exact absurd hev (zjf _ _ _ _ (by intro ac h;cases h) (by intro h;cases h))
 | bad=>rw[hev] at hp;exact hp.elim
theorem zpt {cl:zi} {l:List SOper} {ds:List Nat} (hds:∀ o ∈ l,∀ d,o.dst=some d→d ∈ ds):∀ (t:BT) (ac A:Ac),evT cl l ds t ac=.nor A→∀ s,s ∉ ds→A.e s=ac.e s
 | .e,ac,A,h,s,hs=>by
  simp only[evT,EO.nor.injEq] at h
  rw[←h]
 | .n i t r,ac,A,h,s,hs=>by
  simp only[evT] at h
  split at h
  ·cases hst:za6 cl l i ac with
   | bad=>rw[hst] at h;cases h
   | pan v S=>rw[hst] at h;cases h
   | ok ac2 =>
    rw[hst] at h
    have h1:=zpt hds t ac2 A h s hs
    rw[h1]
    unfold za6 at hst
    cases hl:l[i]? with
    | none=>rw[hl] at hst;cases hst
    | some o =>
     rw[hl] at hst
     obtain⟨v,hv,_⟩:=zih (e:=ac.e) (S:=ac.S) (e':=ac.e) (fun _ _=>rfl) hst
     rw[hv]
     cases hd:o.dst with
     | none=>rfl
     | some d =>
      have:s≠d:=fun e=>hs (e ▸ hds o (List.mem_of_getElem? hl) d hd)
      simp[Ac.put,upd,this]
  cases h
theorem zq0 {n l0:Nat} {g:Gh} {w:World} {Q:Exit→Act→World→Prop} {ds:List Nat} {x y:EO} (h:zjg ds x y) (hoff:∀ A B,x=.nor A→y=.nor B→∀ s,s ∉ ds→A.e s=B.e s) (hp:EPost D n g l0 w Q y):EPost D n g l0 w Q x:=by
 cases x with
 | nor A =>
  cases y with
  | nor B =>
   have:A=B:=zrm (by
    funext s
    by_cases hs:s ∈ ds
    ·exact h.2 s hs
    exact hoff A B rfl rfl s hs) h.1
   rw[this]
   exact hp
  | _=>exact h.elim
 | pan v S =>
  cases y with
  | pan v' S' =>
   obtain⟨rfl,rfl⟩:=h
   exact hp
  | _=>exact h.elim
 | _=>cases y <;> exact h.elim
theorem znO {cl:zi} {l:List SOper} {ds:List Nat} {ac:Ac} {x:EO} {f:Nat→BT}:∀ (is:List Nat),evTs cl l ds (is.foldr (fun j r=>.n j (f j) r) .e) ac x→∀ i ∈ is,zjg ds (nxT (evT cl l ds (f i)) (za6 cl l i ac)) x
 | [],_,i,hi=>by cases hi
 | j::is,h,i,hi=>by
  simp only[List.foldr_cons,evTs] at h
  rcases List.mem_cons.1 hi with rfl | hi
  ·exact h.1
  exact znO is h.2 i hi
theorem zvX {cl:zi} (hcl:zak P cl) {n:Nat} {ops:Array Oper} {l:List SOper} (hc:CodeOf P n ops l) {b:Array Nat} (hb:b=CheckFast.beforeF ops) (hfw:zkE ops=true) {Q:Exit→Act→World→Prop} :
  ∀ (fuel:Nat) (rem:List Nat) (f:Nat) (L:Array Bool) (g:Gh) (ac:Ac) (a:Act) (w:World),rem.Nodup→rem.length≤fuel→rem.length≤f→L.size=l.length→(∀ i,i ∈ rem↔i < l.length∧L.getD i true=false)→(∀ i j,L.getD i false=true→(b.getD i 0).testBit j=true→L.getD j false=true) →
   zar D n g ac a w→(∀ (i:Nat) (o:SOper) (d:Nat) (z:List PV),l[i]?=some o→i ∈ rem→o.dst=some d→o.op=.alloc z→za1 g 0 d)→(∀ (i j:Nat) (oi oj:SOper) (d:Nat),l[i]?=some oi→l[j]?=some oj→i≠j→oi.dst=some d→oj.dst≠some d) →
   EPost D n g ac.S.length w Q (evT cl l (zeU l) (zcv b f rem) ac)→wpAny P .any ops Q fuel L a w:=by
 obtain⟨hll,hget⟩:=hc
 have hN:ops.size=l.length:=by rw[hll];simp
 have hgood:=zjB ops
 rw[←hb] at hgood
 have hds:∀ o ∈ l,∀ d,o.dst=some d→d ∈ zeU l:=fun o ho d hd=>List.mem_filterMap.2 ⟨o,ho,hd⟩
 have hend:∀ (L:Array Bool) (rem:List Nat) , L.size=l.length→(∀ i,i ∈ rem↔i < l.length∧L.getD i true=false)→Region.ready .any ops L=[]→rem=[]:=by
  intro L rem hs hrem hr
  have hall:∀ k i,i≤k→i < l.length→L.getD i false=true:=by
   intro k
   induction k with
   | zero =>
    intro i hi hl
    refine Decidable.byContradiction fun hcon=>?_
    have h0:L.getD i true=false:=zgJ (by simpa using hcon) (by rw[hs];exact hl)
    have:i ∈ Region.ready .any ops L:=by
     rw[mem_ready]
     refine⟨h0,ops[i],Array.getElem?_eq_getElem (by omega),fun e he hbd=>?_⟩
     have:=zb5 hfw (i:=i) (o:=ops[i]) (by simp[hN,hl])
     rw[List.all_eq_true] at this
     have:=this e (by simpa using he)
     simp[hbd] at this
     omega
    rw[hr] at this
    cases this
   | succ k ih =>
    intro i hi hl
    refine Decidable.byContradiction fun hcon=>?_
    have h0:L.getD i true=false:=zgJ (by simpa using hcon) (by rw[hs];exact hl)
    have:i ∈ Region.ready .any ops L:=by
     rw[mem_ready]
     refine⟨h0,ops[i],Array.getElem?_eq_getElem (by omega),fun e he hbd=>?_⟩
     have:=zb5 hfw (i:=i) (o:=ops[i]) (by simp[hN,hl])
     rw[List.all_eq_true] at this
     have:=this e (by simpa using he)
     simp[hbd] at this
     exact ih e.on (by omega) (by omega)
    rw[hr] at this
    cases this
  apply List.eq_nil_iff_forall_not_mem.2
  intro i hi
  obtain⟨h1,h2⟩:=(hrem i).1 hi
  have:=(zfr h2).1
  rw[hall i i (Nat.le_refl _) h1] at this
  cases this
 intro fuel
 induction fuel with
 | zero =>
  intro rem f L g ac a w hnd hfu hff hs hrem hcl2 hr hbare hone hp
  have hR0:rem=[]:=List.eq_nil_of_length_eq_zero (by omega)
  subst hR0
  have hrd:Region.ready .any ops L=[]:=by
   apply List.eq_nil_iff_forall_not_mem.2
   intro i hi
   rw[mem_ready] at hi
   obtain⟨h1,o,h2,_⟩:=hi
   have:=(hrem i).2 ⟨by rw[←hN];exact (Array.getElem?_eq_some_iff.1 h2).1,h1⟩
   cases this
  have he:zcv b f []=.e:=by cases f <;> rfl
  rw[he] at hp
  exact⟨hrd,hp a w g hr (Tr.refl g w) rfl⟩
 | succ fuel ih =>
  intro rem f L g ac a w hnd hfu hff hs hrem hcl2 hr hbare hone hp
  refine⟨fun hrd=>?_,fun i hi=>?_⟩
  ·obtain rfl:=hend L rem hs hrem hrd
   have he:zcv b f []=.e:=by cases f <;> rfl
   rw[he] at hp
   exact hp a w g hr (Tr.refl g w) rfl
  rw[mem_ready] at hi
  obtain⟨h1,o,h2,hdep⟩:=hi
  obtain⟨hin,hiL⟩:=zfr h1
  have hil:i < l.length:=by rw[←hs];exact hiL
  have hmem:i ∈ rem:=(hrem i).2 ⟨hil,h1⟩
  obtain⟨so,s0,hso,hco,hos⟩:=hget i o (by simpa using h2)
  have hde:so.dst=s0.dst:=by
   rcases hos with rfl | rfl
   ·rfl
   exact (zfm s0).1
  have hbef:∀ j,(b.getD i 0).testBit j=true→L.getD j false=true:=by
   intro j hj
   obtain⟨o',q1,e,q2,q3,q4⟩:=hgood i j hj
   have:o=o':=by
    have:ops.toList[i]?=some o:=by simpa using h2
    rw[this] at q1
    exact Option.some.inj q1
   subst this
   have hon:=hdep e (by simpa using q2) q3
   rcases q4 with q4 | q4
   ·rw[←q4];exact hon
   exact hcl2 _ _ hon q4
  have hnx:i ∈ zk1 b rem:=by
   unfold zk1
   rw[List.mem_filter]
   refine⟨hmem,?_⟩
   rw[List.all_eq_true]
   intro j hj
   cases hbj:(b.getD i 0).testBit j with
   | false=>rfl
   | true =>
    have h3:=hbef j hbj
    have h4:=(zfr ((hrem j).1 hj).2).1
    rw[h3] at h4
    cases h4
  obtain⟨f',rfl⟩:∃ f',f=f'+1:=⟨f - 1,by have:=List.length_pos_of_mem hmem;omega⟩
  have hway:EPost D n g ac.S.length w Q (nxT (evT cl l (zeU l) (zcv b f' (rem.erase i))) (stp cl false so ac)):=by
   have hstpI:za6 cl l i ac=stp cl false so ac:=by unfold za6;rw[hso]
   rw[←hstpI]
   simp only[zcv] at hp
   cases hnl:zk1 b rem with
   | nil=>rw[hnl] at hnx;cases hnx
   | cons i0 is =>
    rw[hnl] at hp hnx
    simp only[evT] at hp
    split at hp
    ·rename_i hr2
     rcases List.mem_cons.1 hnx with rfl | hmi
     ·exact hp
     have hsm:=znO (f:=fun j=>zcv b f' (rem.erase j)) is hr2 i hmi
     refine zq0 hsm (fun A B hA hB s hns=>?_) hp
     have off:∀ j A,nxT (evT cl l (zeU l) (zcv b f' (rem.erase j))) (za6 cl l j ac)=.nor A→A.e s=ac.e s:=by
      intro j A hA
      have h5:evT cl l (zeU l) (.n j (zcv b f' (rem.erase j)) .e) ac=.nor A:=by
       simp only[evT]
       rw[if_pos (show evTs cl l (zeU l) .e ac _ from (by simp only[evTs]))]
       exact hA
      exact zpt hds _ ac A h5 s hns
     rw[off i A hA,off i0 B hB]
    exact hp.elim
  have hres:=ziz hcl hco (kd:=false) hr (fun _ d z hdd hz=>hbare i so d z hso hmem (hde.trans hdd) (by
   rcases hos with rfl | rfl
   ·exact hz
   rcases (zfm s0).2 with h | ⟨v,h,_⟩
   ·rw[h];exact hz
   rw[h] at hz;cases hz))
  obtain⟨_,hdst,hdn,_⟩:=zc2 hco
  rw[←hde] at hdst
  have hdo:zer P ops o a w (wpAny P .any ops Q fuel (L.setIfInBounds i true)) Q:=by
   cases hst:stp cl false so ac with
   | bad=>rw[hst] at hway;exact hway.elim
   | pan v S =>
    have hst0:stp cl false s0 ac=.pan v S:=by
     rcases hos with rfl | rfl
     ·exact hst
     exact zow hst
    rw[hst] at hway
    rw[hst0] at hres
    exact hres _ _ fun c w' g' q1 q2 _ q3 q4=>hway a w' g' c q1 q2 q3 q4 hr.defers
   | ok ac' =>
    have hst0:stp cl false s0 ac=.ok ac':=by
     rcases hos with rfl | rfl
     ·exact hst
     exact zmZ hst
    rw[hst] at hway
    rw[hst0] at hres
    refine hres _ _ fun c w' g' hstp=>?_
    have hra:=hstp.relA hr hdn
    refine ih (rem.erase i) f' _ g' ac' _ w' (hnd.erase i) ?_ ?_ (by simp[hs]) ?_ ?_ hra ?_ hone ?_
    ·rw[List.length_erase_of_mem hmem];omega
    ·rw[List.length_erase_of_mem hmem];omega
    ·intro j
     rw[hnd.mem_erase_iff]
     by_cases e:j=i
     ·subst e
      constructor
      ·intro h;exact absurd rfl h.1
      intro h
      have:=(zfr h.2).1
      rw[zco hiL] at this
      cases this
     rw[getD_set_ne true (Ne.symm e),hrem j]
     simp[e]
    ·intro p q hpp hq
     by_cases e:p=i
     ·subst e
      exact getD_set_true (hbef q hq)
     rw[getD_set_ne false (Ne.symm e)] at hpp
     exact getD_set_true (hcl2 p q hpp hq)
    ·intro p op d z hpp hpr hpd hpz
     rw[hnd.mem_erase_iff] at hpr
     refine (hstp.ext rfl).2.2 d ?_ (hbare p op d z hpp hpr.2 hpd hpz)
     rw[←hdst]
     exact hone p i op so d hpp hso hpr.1 hpd
    rw[hstp.len]
    exact hway.from hstp.tr
  unfold wpOp
  rw[h2]
  unfold zer at hdo
  dsimp only
  split
  ·rename_i hw
   rw[if_pos hw] at hdo
   exact .inl hdo
  rename_i hw
  rw[if_neg hw] at hdo
  exact hdo
theorem zvQ {cl:zi} (hcl:zak P cl) (hm:P.follows .mixedOrders=true) {n id:Nat} {ops:Array Oper} {l:List SOper} (hc:CodeOf P n ops l) (hfw:zkE ops=true) (hone:zqC l=true) {g:Gh} {ac:Ac} {a:Act} {w:World} {Q:Exit→Act→World→Prop} (hr:zar D n g ac a w)
  (hp:EPost D n g ac.S.length w Q (evT cl l (zeU l) (zcv (CheckFast.beforeF ops) l.length (List.range l.length)) (prep l ac))):(Code.region id ops true).wp P Q a w:=by
 obtain⟨g1,hr1,ht1,hl1,_,hb1⟩:=zlp l ac g hr
 have hN:ops.size=l.length:=by rw[hc.1];simp
 apply wp_region_any hm
 have hr2:zar D n g1 (prep l ac) a { w with drawn:=w.drawn+1 }:=⟨⟨hr1.rel.wr.drawn _,hr1.rel.env⟩,hr1.size,hr1.defers,hr1.ne⟩
 have ht2:Tr g w g1 { w with drawn:=w.drawn+1 }:=⟨ht1.os,ht1.tape,ht1.output,ht1.size,ht1.fz,ht1.keep,ht1.new,ht1.out⟩
 have hno:∀ i,(Array.replicate ops.size false).getD i false=false:=by
  intro i
  rw[Array.getD_eq_getD_getElem?,Array.getElem?_replicate]
  split <;> rfl
 have hnt:∀ i,i < l.length→(Array.replicate ops.size false).getD i true=false:=by
  intro i hi
  exact zgJ (hno i) (by simp[hN,hi])
 refine zvX (D:=D) hcl hc rfl hfw ops.size (List.range l.length) l.length _ g1 (prep l ac) a _ List.nodup_range (by simp[hN]) (by simp) (by simp[hN]) (fun i=>?_) (fun i j h=>by rw[hno] at h;cases h) hr2 ?_ ?_ (by rw[hl1];exact hp.from ht2)
 ·rw[List.mem_range]
  exact⟨fun h=>⟨h,hnt i h⟩,fun h=>h.1⟩
 ·intro i o d z hi _ hd hz
  exact hb1 o (List.mem_of_getElem? hi) d z hd hz
 intro i j oi oj d hi hj hne hdi hdj
 have h1:=zb5 hone hi
 have h2:=zb5 h1 hj
 have hne':¬ j=i:=Ne.symm hne
 simp[hne',hdi,hdj] at h2
end
section
variable [Base] {P:Program} {D:List Deferred}
def zmL (P:Program) (c:Code) (Q:Exit→Act→World→Prop) (a:Act) (w:World):Prop :=
 ∀ (b:Frame) (k:List Item) (cs:List Frame),∃ e a' w',Q e a' w'∧Arrives P (lone (b.at a (.code c::.inLoop c::k)) cs w) b k cs e a' w'
theorem ztN {c:Code} {Q:Exit→Act→World→Prop} {a:Act} {w:World} (h:c.wp P (Exit.then (zmL P c Q) Q) a w):zmL P c Q a w:=by
 intro b k cs
 obtain⟨e,a₁,w₁,hq,harr⟩:=h b (.inLoop c::k) cs
 cases e with
 | normal =>
  obtain⟨e₂,a₂,w₂,hq₂,harr₂⟩:=hq b k cs
  exact⟨e₂,a₂,w₂,hq₂,.of_steps (Steps.trans harr (.one step_inLoop)) harr₂⟩
 | exit id=>exact⟨_,a₁,w₁,hq,.pass (x:=.inLoop c) rfl (fun _ _=>.inl (by simp)) harr⟩
 | goto l=>exact⟨_,a₁,w₁,hq,.pass (x:=.inLoop c) rfl (fun _ _=>.inl (by simp)) harr⟩
 | ret=>exact⟨_,a₁,w₁,hq,.pass (x:=.inLoop c) rfl (fun _ _=>.inl (by simp)) harr⟩
 | panic ch=>exact⟨_,a₁,w₁,hq,.pass (x:=.inLoop c) rfl (fun _ _=>.inl (by simp)) harr⟩
 | outgrown=>exact⟨_,a₁,w₁,hq,.pass (x:=.inLoop c) rfl (fun _ _=>.inl (by simp)) harr⟩
theorem zoD {c:Code} {Q:Exit→Act→World→Prop} {a:Act} {w:World} (h:zmL P c Q a w):(Code.loop c).wp P Q a w:=by
 intro b k cs
 obtain⟨e,a',w',hq,harr⟩:=h b k cs
 exact⟨e,a',w',hq,.of_steps (.one step_loop) harr⟩
theorem EPost.behind {n l:Nat} {g:Gh} {w:World} {Q:Exit→Act→World→Prop} {T:Act→World→Prop} {r:EO} (hr:r≠.bad) (h:(∀ ac',r≠.nor ac')→EPost D n g l w Q r) (hn:∀ ac',r=.nor ac'→∀ a' w' g',zar D n g' ac' a' w'→Tr g w g' w'→ac'.S.length=l→T a' w'):EPost D n g l w (Exit.then T Q) r:=by
 cases r with
 | nor ac=>exact hn ac rfl
 | ext id ac=>exact h (fun _ h=>by cases h)
 | ret ac=>exact h (fun _ h=>by cases h)
 | pan v S=>exact h (fun _ h=>by cases h)
 | bad=>exact absurd rfl hr
theorem znP {n l0:Nat} {a:Act} {w:World} {Q:Exit→Act→World→Prop} {K:Ac→EO} {T:Prop}:∀ (F:List Nat) {g:Gh} {ac:Ac},zar D n g ac a w →
  (EPost D n g l0 w Q (match frzC F ac with | .nor ac=>K ac | r=>r))→(∀ ac1 g1,zar D n g1 ac1 a w→Tr g w g1 w→ac1.S.length=ac.S.length→EPost D n g1 l0 w Q (K ac1)→T)→T
 | [],g,ac,hr,hp,h=>h ac g hr (Tr.refl g w) rfl hp
 | t::F,g,ac,hr,hp,h=>by
  simp only[frzC] at hp
  cases hh:hand ac.S (ac.e t) with
  | none=>rw[hh] at hp;exact hp.elim
  | some p =>
   obtain⟨v,S1⟩:=p
   rw[hh] at hp
   dsimp only at hp
   obtain⟨g1,w1,x1,t1,r1⟩:=zlg hr.rel.wr (hr.rel.env t) hh
   have hl:=zgq hh
   have h1:zar D n g1 ⟨upd ac.e t v,S1⟩ a w:=by
    refine⟨⟨w1,fun s=>?_⟩,hr.size,hr.defers,by show 0 < S1.length;rw[hl];exact hr.ne⟩
    by_cases e:s=t
    ·subst e
     show VR g1 (upd ac.e s v s) _
     rw[znd]
     exact r1
    show VR g1 (upd ac.e t v s) _
    rw[zsL _ _ e]
    exact (hr.rel.env s).mono x1
   exact znP F h1 (hp.from t1) fun ac2 g2 q1 q2 q3 q4=>h ac2 g2 q1 (t1.trans q2) (q3.trans hl) q4
theorem zgF {cl:zi} (hcl:zak P cl) (hm:P.follows .mixedOrders=true) {n:Nat}:∀ (c:Code) (sc:SC),zaj P n c=some sc→∀ (N:Nat) {g:Gh} {ac:Ac} {a:Act} {w:World} {Q:Exit→Act→World→Prop},zar D n g ac a w→EPost D n g ac.S.length w Q (evC cl N sc ac)→c.wp P Q a w:=by
 intro c
 induction c with
 | skip =>
  intro sc hc N g ac a w Q hr hp
  simp only[zaj,Option.some.injEq] at hc
  subst hc
  simp only[evC] at hp
  exact wp_skip (hp a w g hr (Tr.refl g w) rfl)
 | region id ops draw =>
  intro sc hc N g ac a w Q hr hp
  cases draw with
  | false =>
   simp only[zaj,Option.map_eq_some_iff] at hc
   obtain⟨l,hl,rfl⟩:=hc
   simp only[evC] at hp
   exact wp_region_list (zj7 hcl ops.toList l hl hr hp)
  | true =>
   simp only[zaj] at hc
   split at hc
   ·rename_i l hl
    split at hc
    ·split at hc
     ·rename_i hdr
      cases hc
      simp only[Bool.and_eq_true] at hdr
      simp only[evC] at hp
      exact zvQ hcl hm (.hard hl) hdr.1 hdr.2 hr hp
     cases hc
    split at hc
    ·split at hc
     ·rename_i hdr
      cases hc
      simp only[evC] at hp
      exact znP (K:=fun ac=>evD cl (l.map zaK) ((List.range (l.map zaK).length).map (zgv (CheckFast.beforeF ops) (l.map zaK))) (prep (l.map zaK) ac)) (zvr l) hr hp fun ac1 g1 h1 ht hl1 hp1=>by
       rw[←hl1] at hp1
       exact zpg hcl hm (.soft hl) hdr h1 hp1
     cases hc
    split at hc
    ·rename_i hdr
     cases hc
     simp only[evC] at hp
     exact zpg hcl hm (.hard hl) hdr hr hp
    cases hc
   cases hc
 | seq x y ihx ihy =>
  intro sc hc N g ac a w Q hr hp
  simp only[zaj] at hc
  split at hc
  ·rename_i sx sy hx hy
   cases hc
   have hbad:evC cl N sx ac≠.bad:=fun e=>by
    simp only[evC,e] at hp
    exact hp
   refine wp_seq (ihx sx hx N hr (EPost.behind hbad (fun hnn=>?_) (fun ac' he a' w' g' h1 h2 h3=>?_)))
   ·simp only[evC] at hp
    cases he:evC cl N sx ac with
    | nor ac'=>exact absurd he (hnn ac')
    | _=>rw[he] at hp;exact hp
   simp only[evC,he] at hp
   exact ihy sy hy N h1 (by rw[h3];exact hp.from h2)
  cases hc
 | cond x y z ihy ihz =>
  intro sc hc N g ac a w Q hr hp
  simp only[zaj] at hc
  split at hc
  ·rename_i sx sy sz hx hy hz
   cases hc
   simp only[evC] at hp
   split at hp
   ·rename_i t ht
    have hev:=hr.rel.ev hx
    rw[ht] at hev
    refine wp_cond hev.bool_inv ?_
    cases t with
    | true=>exact ihy sy hy N hr hp
    | false=>exact ihz sz hz N hr hp
   exact hp.elim
  cases hc
 | block id x ih =>
  intro sc hc N g ac a w Q hr hp
  simp only[zaj,Option.map_eq_some_iff] at hc
  obtain⟨sx,hx,rfl⟩:=hc
  simp only[evC] at hp
  refine wp_block (ih sx hx N hr ?_)
  cases he:evC cl N sx ac with
  | nor ac'=>rw[he] at hp;exact hp
  | ext i ac' =>
   rw[he] at hp
   simp only[zx] at hp
   intro a' w' g' h1 h2 h3
   simp only[Exit.inBlock]
   split
   ·rename_i e;rw[if_pos e] at hp;exact hp a' w' g' h1 h2 h3
   rename_i e;rw[if_neg e] at hp;exact hp a' w' g' h1 h2 h3
  | ret ac'=>rw[he] at hp;exact hp
  | pan v S=>rw[he] at hp;exact hp
  | bad=>rw[he] at hp;exact hp
 | loop x ih =>
  intro sc hc N g ac a w Q hr hp
  simp only[zaj,Option.map_eq_some_iff] at hc
  obtain⟨sx,hx,rfl⟩:=hc
  have key:∀ (N:Nat) {g:Gh} {ac:Ac} {a:Act} {w:World},zar D n g ac a w→EPost D n g ac.S.length w Q (evC cl N (.loop sx) ac)→zmL P x Q a w:=by
   intro N
   induction N with
   | zero =>
    intro g ac a w hr hp
    simp only[evC] at hp
    exact hp.elim
   | succ N ihN =>
    intro g ac a w hr hp
    have hbad:evC cl (N+1) sx ac≠.bad:=fun e=>by
     simp only[evC,e] at hp
     exact hp
    refine ztN (ih sx hx (N+1) hr (EPost.behind hbad (fun hnn=>?_) (fun ac' he a' w' g' h1 h2 h3=>?_)))
    ·simp only[evC] at hp
     cases he:evC cl (N+1) sx ac with
     | nor ac'=>exact absurd he (hnn ac')
     | _=>rw[he] at hp;exact hp
    simp only[evC,he] at hp
    exact ihN h1 (by rw[h3];exact hp.from h2)
  exact zoD (key N hr hp)
 | exit id =>
  intro sc hc N g ac a w Q hr hp
  simp only[zaj,Option.some.injEq] at hc
  subst hc
  simp only[evC] at hp
  exact wp_exit (hp a w g hr (Tr.refl g w) rfl)
 | ret =>
  intro sc hc N g ac a w Q hr hp
  simp only[zaj,Option.some.injEq] at hc
  subst hc
  simp only[evC] at hp
  exact wp_ret (hp a w g hr (Tr.refl g w) rfl)
 | _=>intro sc hc;simp[zaj] at hc
end
section
variable [Base] {g g':Gh} {S S':Sto} {w w':World} {P:Program}
def Ow.up:Ow→Ow
 | .box n t=>.box (n+1) t
 | .arr n k=>.arr (n+1) k
theorem zyH {x y:Ow} (h:x.up=y.up):x=y:=by cases x <;> cases y <;> simp[Ow.up] at h <;> simp[h]
theorem zhw {x:Ow} {b:Nat} (h:g.push.own x=some b):∃ y,x=y.up∧g.own y=some b:=by
 cases x with
 | box n t =>
  cases n with
  | zero=>simp[Gh.own,Gh.push] at h
  | succ n=>exact⟨.box n t,rfl,h⟩
 | arr n k =>
  cases n with
  | zero=>simp[Gh.own,Gh.push] at h
  | succ n=>exact⟨.arr n k,rfl,h⟩
theorem ziT (g:Gh) (x:Ow):g.pop.own x=g.own x.up:=by cases x <;> rfl
theorem zuJ (g:Gh) (x:Ow):g.push.own x.up=g.own x:=by cases x <;> rfl
theorem zlu (hw:WR g S w):WR g.push (Fr.e::S) w:=by
 refine⟨hw.ok.sub fun x k h=>by obtain⟨y,_,hy⟩:=zhw h;exact⟨y,hy⟩,hw.fz,?_,?_,?_⟩
 ·intro n t b h
  cases n with
  | zero=>simp[Gh.push] at h
  | succ n =>
   obtain⟨vs,cs,elem,h1,h2,h3,h4,h5⟩:=hw.box n t b h
   exact⟨vs,cs,elem,h1,h2,h3,fun i v hi=>(h4 i v hi).up (Gh.pop_push g),h5⟩
 ·intro n k ai h
  cases n with
  | zero=>simp[Gh.push] at h
  | succ n =>
   obtain⟨A,h1,h2⟩:=hw.arr n k ai h
   exact⟨A,h1,h2.ghost rfl⟩
 intro x y b hx hy
 obtain⟨x',rfl,hx'⟩:=zhw hx
 obtain⟨y',rfl,hy'⟩:=zhw hy
 rw[hw.inj x' y' b hx' hy']
mutual
theorem zqd:∀ v:PV,v.up.dn=some v
 | .bool _ | .int _ _ | .str _ | .nils _ | .list _ _ _ | .rowp _ _ | .nili | .nile | .undef | .junk | .ptr _ _ _ | .elem _ _ _ _ _ _ | .sl _ _ _ _ _ _ _=>by simp[PV.up,PV.dn]
 | .agg vs=>by simp[PV.up,PV.dn,zkR vs]
 | .tup vs=>by simp[PV.up,PV.dn,zkR vs]
 | .func f vs=>by simp[PV.up,PV.dn,zkR vs]
 | .iface t v=>by simp[PV.up,PV.dn,zqd v]
theorem zkR:∀ vs:List PV,PV.dnL (PV.upL vs)=some vs
 | []=>by simp[PV.upL,PV.dnL]
 | v::vs=>by simp[PV.upL,PV.dnL,zqd v,zkR vs]
end
theorem zoH (S:Sto) (n t:Nat):getBox S (n+1) t=getBox S.tail n t:=by cases S <;> simp[getBox]
theorem zoF (S:Sto) (n:Nat) (k:AK):getArr S (n+1) k=getArr S.tail n k:=by cases S <;> simp[getArr]
theorem zrv (hw:WR g S w):WR g.pop S.tail w:=by
 refine⟨hw.ok.sub fun x k h=>by rw[ziT] at h;exact⟨_,h⟩,hw.fz,?_,?_,?_⟩
 ·intro n t b h
  obtain⟨vs,cs,elem,h1,h2,h3,h4,h5⟩:=hw.box (n+1) t b h
  exact⟨vs,cs,elem,by rw[←zoH];exact h1,h2,h3,fun i v hi=>(h4 i v hi).dn _ (zqd _),h5⟩
 ·intro n k ai h
  obtain⟨A,h1,h2⟩:=hw.arr (n+1) k ai h
  exact⟨A,by rw[←zoF];exact h1,h2.ghost rfl⟩
 intro x y b hx hy
 rw[ziT] at hx hy
 exact zyH (hw.inj _ _ b hx hy)
theorem zsd (h:Tr g.push w g' w'):Tr g w g'.pop w':=by
 refine⟨h.os,h.tape,h.output,h.size,h.fz,fun k hk hn=>h.keep k hk fun x hx=>?_,fun x k hx=>?_,h.out.pop_⟩
 ·obtain⟨y,_,hy⟩:=zhw hx
  exact hn y hy
 rw[ziT] at hx
 rcases h.new _ k hx with h1 | h1
 ·rw[zuJ] at h1;exact .inl h1
 exact .inr h1
theorem zqE {t:TypeId} {c u:Value} (h:(Instr.loadAt t c).run P w=.ok u w):(do loadVar t (← asAddr c):Sem Value).run P w=.ok u w:=by
 unfold Instr.loadAt at h
 cases c with
 | pointer p =>
  cases p with
  | none=>simp[Instr.sureAddr] at h
  | some a=>simpa [Instr.sureAddr,asAddr] using h
 | _=>simp[Instr.sureAddr] at h
def ziK (tmps:Array Value):ResultVar→Sem Value
 | .tmp t=>pure (tmps.getD t undef)
 | .cell a t=>do loadVar t (← asAddr (tmps.getD a undef))
theorem zjN {n:Nat} {ac:Ac} {a:Act} (hr:Rel g ac a w):∀ (rs:List ResultVar) (xs:List RX) (vs:List PV),zgt P n rs=some xs→rdRes ac xs=some vs →
  ∃ us:List Value,(rs.mapM (ziK a.tmps)).run P w=.ok us w∧vs.length=us.length∧∀ (i:Nat) (v:PV),vs[i]?=some v→∃ u:Value,us[i]?=some u∧VR g v u
 | [],xs,vs,hc,hv=>by
  simp only[zgt,Option.some.injEq] at hc
  subst hc
  simp only[rdRes,Option.some.injEq] at hv
  subst hv
  exact⟨[],rfl,rfl,fun i v h=>by simp at h⟩
 | .tmp t::rs,xs,vs,hc,hv=>by
  simp only[zgt] at hc
  split at hc
  ·rw[Option.map_eq_some_iff] at hc
   obtain⟨xs',hx,rfl⟩:=hc
   simp only[rdRes,Option.map_eq_some_iff] at hv
   obtain⟨vs',hv',rfl⟩:=hv
   obtain⟨us,h1,h2,h3⟩:=zjN hr rs xs' vs' hx hv'
   refine⟨a.tmps.getD t undef::us,by simp[List.mapM_cons,ziK,h1],by simp[h2],fun i v hi=>?_⟩
   cases i with
   | zero=>simp at hi;subst hi;exact⟨_,rfl,hr.env t⟩
   | succ i=>simpa using h3 i v (by simpa using hi)
  cases hc
 | .cell t ty::rs,xs,vs,hc,hv=>by
  simp only[zgt] at hc
  split at hc
  ·rename_i k xs' hk hx
   split at hc
   ·cases hc
    simp only[rdRes] at hv
    split at hv
    ·rename_i v vs' hld hv'
     obtain rfl:=Option.some.inj hv
     obtain⟨us,h1,h2,h3⟩:=zjN hr rs xs' vs' hx hv'
     obtain⟨u,hu,hvr⟩:=zvg hr.wr (hr.env t) hld hk
     have hu':=zqE hu
     refine⟨u::us,?_,by simp[h2],fun i v' hi=>?_⟩
     ·have:(ziK a.tmps (.cell t ty)).run P w=.ok u w:=hu'
      simp[List.mapM_cons,this,h1]
     cases i with
     | zero=>simp at hi;subst hi;exact⟨u,rfl,hvr⟩
     | succ i=>simpa using h3 i v' (by simpa using hi)
    cases hv
   cases hc
  cases hc
def zkm:List Value→Value
 | [v]=>v
 | us=>.tuple us.toArray
theorem zpO (fn:Func) (tmps:Array Value):results fn tmps=(do let vs ← fn.results.mapM (ziK tmps);pure (if h:vs.size=1 then vs[0] else .tuple vs)):=by
 unfold results
 congr 1
theorem zoM {fn:Func} {tmps:Array Value} {us:List Value} (h:(fn.results.toList.mapM (ziK tmps)).run P w=.ok us w):(results fn tmps).run P w=.ok (zkm us) w:=by
 rw[zpO,Array.mapM_eq_mapM_toList]
 simp only[Sem.run_bind,Sem.run_map,h,Result.andThen_ok,Sem.run_pure]
 congr 1
 match us with
 | []=>rfl
 | [v]=>rfl
 | u::v::us=>simp[zkm]
theorem zjn {gi g2:Gh} {S2:Sto} {r:Ret} {c:Value} (hw:WR g2 S2 w') (ht:Tr g.push w g2 w') (hl:S2.length=S.length+1) (hr:zvk g2.pop w' w.heap.size r c):zap g S w (.ok r S2.tail) (.returned c) w' :=
 ⟨g2.pop,zrv hw,ht.out,zsd ht,hr,by rw[List.length_tail,hl];rfl⟩
theorem zlo {gi:Gh} {Si:Sto} {v:PV} {c:Value} (hw:WR gi Si w') (ht:Tr g.push w gi w') (hl:Si.length=S.length+1) (hv:VR gi v c) (hb:retV v Si≠.bad):zap g S w (retV v Si) (.returned c) w':=by
 unfold retV at hb ⊢
 split
 ·rename_i v' S2 hh
  obtain⟨g2,w2,x2,t2,r2⟩:=zlg hw hv hh
  split
  ·rename_i u hu
   exact zjn (gi:=gi) w2 (ht.trans t2) ((zgq hh).trans hl) (r2.dn u hu)
  rename_i hu
  rw[hh] at hb
  simp only[hu] at hb
  exact absurd rfl hb
 rename_i hh
 rw[hh] at hb
 exact absurd rfl hb
theorem zxq {gi:Gh} {Si:Sto} {v:PV} {c:Value} (hw:WR gi Si w') (ht:Tr g.push w gi w') (hl:Si.length=S.length+1) (hv:VR gi v c) (hb:ret1 v Si≠.bad):zap g S w (ret1 v Si) (.returned c) w':=by
 cases v with
 | nils z =>
  cases hv with | data _ _ h=>cases h with | nils _ A =>
  refine zjn (gi:=gi) hw ht hl ⟨⟨A,0,z,0,0,none⟩,⟨rfl,rfl,rfl,(fun r hr=>by cases hr),Nat.le_refl _,fun h=>absurd rfl h,⟨fun _ _=>undef,(fun i j row v hi=>by simp at hi),(fun ad i j row v _ hi=>by simp at hi)⟩,(fun b hb=>by cases hb),fun _=>⟨rfl,.inr rfl⟩⟩,rfl,(fun b hb=>by cases hb)⟩
 | sl n a off len ver gen full =>
  cases n with
  | succ n=>exact zlo hw ht hl hv hb
  | zero =>
   unfold ret1 at hb ⊢
   dsimp only at hb ⊢
   cases hA:getArr Si 0 a with
   | none=>rw[hA] at hb;exact absurd rfl hb
   | some A =>
    rw[hA] at hb
    dsimp only at hb ⊢
    by_cases hc:A.gen=gen∧A.rows.length=ver∧off=0∧len=ver∧full=false∧A.frz=false
    ·rw[if_pos hc]
     obtain⟨hg,hv',rfl,rfl,rfl,_⟩:=hc
     cases hv with
     | data _ _ h=>cases h
     | sl _ _ _ _ _ _ _ ai _ hai hle h1 hs =>
      obtain⟨A',hA',hr⟩:=hw.arr 0 a ai hai
      obtain rfl:A=A':=Option.some.inj (hA.symm.trans hA')
      obtain⟨A0,cap,rfl,sa⟩:=hs (hr.gen.trans hg) (hr.len.trans hv')
      have e1:=sa.zero rfl
      have e2:=sa.open_ rfl (by rw[hr.len];exact hv'.symm) rfl
      subst e1 e2
      refine zjn (gi:=gi) hw ht hl ⟨{ ai with gen:=0 },⟨hr.sz,hr.len,rfl,hr.each,hr.cap,hr.addr,hr.cells,hr.own,hr.free⟩,by rw[hr.len,hv'],fun b hbk=>?_⟩
      have hown:gi.own (.arr 0 a)=some b:=by
       simp only[Gh.own,hai,Option.bind_some]
       exact hbk
      refine⟨?_,fun x hx=>?_⟩
      ·rcases ht.new _ b hown with h | h
       ·simp[Gh.own,Gh.push] at h
       exact h
      rw[ziT] at hx
      have:=hw.inj _ _ b hx hown
      cases x <;> simp[Ow.up] at this
    rw[if_neg hc] at hb ⊢
    exact zlo hw ht hl hv hb
 | _=>exact zlo hw ht hl hv hb
theorem zv6 {gi:Gh} {Si:Sto} {vs:List PV} {us:List Value} (hw:WR gi Si w') (ht:Tr g.push w gi w') (hl:Si.length=S.length+1) (hlen:vs.length=us.length) (hv:∀ (i:Nat) (v:PV),vs[i]?=some v→∃ u:Value,us[i]?=some u∧VR gi v u) (hb:retL vs Si≠.bad):zap g S w (retL vs Si) (.returned (zkm us)) w':=by
 have many:(∀ v,vs≠[v])→zap g S w (retL vs Si) (.returned (zkm us)) w':=by
  intro hne
  have e:retL vs Si=match handA Si vs with | some (vs,S)=>(match PV.dnL vs with | some vs=>.ok (.v (.tup vs)) S.tail | none=>.bad) | none=>.bad:=by
   match vs,hne with
   | [],_=>rfl
   | [v],h=>exact absurd rfl (h v)
   | u::v::vs,_=>rfl
  have e2:zkm us=.tuple us.toArray:=by
   match us,vs,hlen,hne with
   | [],_,_,_=>rfl
   | [u],[v],_,h=>exact absurd rfl (h v)
   | u::v::us,_,_,_=>rfl
  rw[e] at hb ⊢
  rw[e2]
  cases hh:handA Si vs with
  | none=>rw[hh] at hb;exact absurd rfl hb
  | some p =>
   obtain⟨vs',S2⟩:=p
   rw[hh] at hb
   dsimp only at hb ⊢
   obtain⟨g2,w2,x2,t2,l2,r2⟩:=zjG vs vs' Si S2 gi (fun i=>us.toArray.getD i undef) hw (fun i v hi=>by
    obtain⟨u,hu,hvr⟩:=hv i v hi
    have:us.toArray.getD i undef=u:=by
     rw[Array.getD_eq_getD_getElem?]
     simp[hu]
    rw[this]
    exact hvr) hh
   cases hd:PV.dnL vs' with
   | none=>rw[hd] at hb;exact absurd rfl hb
   | some ws =>
    dsimp only
    refine zjn (gi:=gi) w2 (ht.trans t2) ((zfS _ _ _ _ hh).trans hl) ?_
    obtain⟨d1,d2⟩:=zdQ vs' ws hd
    refine .tup ws us.toArray (by simp;omega) fun i v hi=>?_
    obtain⟨v0,q1,q2⟩:=d2 i v hi
    exact (r2 i v0 q1).dn v q2
 match vs,us,hlen with
 | [v],[u],_ =>
  obtain⟨u',h1,h2⟩:=hv 0 v rfl
  simp at h1
  subst h1
  exact zxq hw ht hl h2 hb
 | [],us,_=>exact many (fun v h=>by cases h)
 | a::b::vs,us,_=>exact many (fun v h=>by cases h)
theorem zet {n:Nat} {fn:Func} {res:List RX} (hc:zgt P n fn.results.toList=some res) {gi:Gh} {ac:Ac} {a:Act} {D:List Deferred} (hr:zar D n gi ac a w') (ht:Tr g.push w gi w') (hl:ac.S.length=S.length+1) (hb:retOf res ac≠.bad) :
  ∃ v,(results fn a.tmps).run P w'=.ok v w'∧zap g S w (retOf res ac) (.returned v) w':=by
 unfold retOf at hb ⊢
 cases hrd:rdRes ac res with
 | none=>rw[hrd] at hb;exact absurd rfl hb
 | some vs =>
  rw[hrd] at hb
  obtain⟨us,h1,h2,h3⟩:=zjN hr.rel _ _ vs hc hrd
  exact⟨_,zoM h1,zv6 hr.rel.wr ht hl h2 h3 hb⟩
theorem zv5 {cl:zi} (hcl:zak P cl) (hm:P.follows .mixedOrders=true) {f:Nat} {fn:Func} {sf:zh} (hf:P.funcs[f]?=some fn) (hc:comp P fn=some sf) (N:Nat) {args:List PV} {cs:Array Value} (hla:args.length=sf.nargs)
  (hb:fin sf.res (evC cl N sf.code (ac0 args S))≠.bad) (hw:WR g S w) (ha:zcG g args cs):Answers P f cs w (zap g S w (fin sf.res (evC cl N sf.code (ac0 args S)))):=by
 unfold comp at hc
 split at hc
 ·rename_i c hbody
  split at hc
  ·rename_i c' r' hcc hrr
   split at hc
   ·rename_i hcnd
    cases hc
    simp only at hla hb ⊢
    have hsz:cs.size≤fn.ntmps:=by rw[←ha.1,hla];exact hcnd.1
    left
    constructor
    ·unfold callFunc
     simp[hf,hcnd.2,hbody]
    refine calls_of_wp hf hbody ?_
    have hr:zar [] fn.ntmps g.push (ac0 args S) { tmps:=cs++Array.replicate (fn.ntmps - cs.size) undef,defers:=[] } w:=by
     refine⟨⟨zlu hw,fun t=>?_⟩,by simp;omega,rfl,Nat.succ_pos _⟩
     show VR g.push (zht (args.map PV.up) t) ((cs++Array.replicate (fn.ntmps - cs.size) undef).getD t undef)
     unfold zht
     rw[List.getElem?_map,Array.getD_eq_getD_getElem?]
     cases hat:args[t]? with
     | some v =>
      have hlt:=(List.getElem?_eq_some_iff.1 hat).1
      rw[Array.getElem?_append_left (by rw[←ha.1];exact hlt)]
      simp only[Option.map_some,Option.getD_some]
      rw[←Array.getD_eq_getD_getElem?]
      exact (ha.2 t v hat).up (Gh.pop_push g)
     | none =>
      have hge:=List.getElem?_eq_none_iff.1 hat
      rw[Array.getElem?_append_right (by rw[←ha.1];exact hge)]
      simp only[Option.map_none,Option.getD_none]
      rw[Array.getElem?_replicate]
      split <;> exact .undef
    refine zgF hcl hm c c' hcc N hr ?_
    cases he:evC cl N c' (ac0 args S) with
    | nor ac =>
     rw[he] at hb
     intro a' w' g' h1 h2 h3
     obtain⟨v,q1,q2⟩:=zet hrr h1 h2 h3 hb
     exact⟨h1.defers,v,q1,q2⟩
    | ret ac =>
     rw[he] at hb
     intro a' w' g' h1 h2 h3
     obtain⟨v,q1,q2⟩:=zet hrr h1 h2 h3 hb
     exact⟨h1.defers,v,q1,q2⟩
    | ext i ac=>rw[he] at hb;exact absurd rfl hb
    | bad=>rw[he] at hb;exact absurd rfl hb
    | pan v Sp =>
     rw[he] at hb
     simp only[fin] at hb ⊢
     intro a' w' g' c2 h1 h2 h3 h4 h5
     cases hd:v.dn with
     | none=>rw[hd] at hb;exact absurd rfl hb
     | some u =>
      refine⟨h5,g'.pop,c2,rfl,zrv h1,h2.dn u hd,h3.out,zsd h3,?_⟩
      rw[List.length_tail,h4]
      rfl
   cases hc
  cases hc
 cases hc
def zdk (P:Program) (f:Nat) (x:List PV→Option PV):Prop:=∀ args v,x args=some v→∀ g S w cs,WR g S w→zcG g args cs→Answers P f cs w (zap g S w (.ok (.v v) S))
def zqq (P:Program) (f:Nat) (r:zcS):Prop:=∀ (cl:zi) (N:Nat),zak P cl→P.follows .mixedOrders=true→∀ args S,args.length=r.nargs→zdH r (zQ cl r.ops) (evC cl N r.post) (evC cl N r.pre (ac0 args S))≠.bad →
 ∀ g w cs,WR g S w→zcG g args cs→Answers P f cs w (zap g S w (zdH r (zQ cl r.ops) (evC cl N r.post) (evC cl N r.pre (ac0 args S))))
def zvf (P:Program) (f:Nat) (q:List PV→Qn):Prop:=∀ (cl:zi),zak P cl→P.follows .mixedOrders=true→∀ args v,(q args).ev (zaR cl)=some v→∀ g S w cs,WR g S w→zcG g args cs→Answers P f cs w (zap g S w (.ok (.v v) S))
def XOk (P:Program) (f:Nat):XF→Prop
 | .fn y=>zdk P f y
 | .rcv r=>zqq P f r
 | .orc q=>zvf P f q
theorem zkA (hm:P.follows .mixedOrders=true) {x:Nat→Option XF} (hx:∀ f y,x f=some y→XOk P f y):∀ k,zak P (run (zfF P x) k)
 | 0=>fun f args S h=>absurd rfl h
 | k+1=>by
  intro f args S hb g w cs hw ha
  simp only[run] at hb ⊢
  cases hsp:zfF P x f with
  | none=>rw[hsp] at hb;exact absurd rfl hb
  | some sf =>
   rw[hsp] at hb
   dsimp only at hb ⊢
   unfold zfF at hsp
   cases hxf:x f with
   | some y =>
    rw[hxf] at hsp
    obtain rfl:=Option.some.inj hsp
    have hy0:=hx f y hxf
    cases y with
    | fn y =>
     simp only[body,XF.sfn] at hb ⊢
     cases hy:y args with
     | none=>rw[hy] at hb;exact absurd rfl hb
     | some v=>exact hy0 args v hy g S w cs hw ha
    | rcv r =>
     simp only[body,XF.sfn] at hb ⊢
     by_cases hl:args.length=r.nargs
     ·rw[if_pos hl] at hb ⊢
      exact hy0 _ k (zkA hm hx k) hm args S hl hb g w cs hw ha
     rw[if_neg hl] at hb
     exact absurd rfl hb
    | orc q =>
     simp only[body,XF.sfn] at hb ⊢
     cases hq:(q args).ev (zaR (run (zfF P x) k)) with
     | none=>rw[hq] at hb;exact absurd rfl hb
     | some v=>exact hy0 _ (zkA hm hx k) hm args v hq g S w cs hw ha
   | none =>
    rw[hxf] at hsp
    simp only[Option.map_eq_some_iff,Option.bind_eq_some_iff] at hsp
    obtain⟨cf,⟨fn,hf,hc⟩,rfl⟩:=hsp
    simp only[body] at hb ⊢
    by_cases hl:args.length=cf.nargs
    ·rw[if_pos hl] at hb ⊢
     exact zv5 (zkA hm hx k) hm hf hc k hl hb hw ha
    rw[if_neg hl] at hb
    exact absurd rfl hb
theorem zpR (hm:P.follows .mixedOrders=true) {x:Nat→Option XF} (hx:∀ f y,x f=some y→XOk P f y):zak P (call (zfF P x)):=by
 intro f args S hb g w cs hw ha
 obtain⟨k,hk⟩:=zel (zfF P x) f args S
 rw[←hk] at hb ⊢
 exact zkA hm hx k f args S hb g w cs hw ha
end
end Go.Proofs.YtfbcnpbhhooapaaGreatDoor.M
namespace Go.Proofs.YtfbcnpbhhooapaaGreatDoor.M
open Go Go.RowKit Go.WideShapes Go.ChangeShapes Classical
instance (priority:=low) noBase:Base:=⟨{ heap:=#[],tape:=fun _ _=>0,drawn:=0,os:=default,output:=#[] }⟩
section
variable {P:Program} {W:World}
def zmI (H:TypeId→List PV→Prop):List Field→List PV→Prop
 | [],vs=>vs=[]
 | f::fs,vs=>∃ a b,vs=a++b∧H f.type a∧zmI H fs b
def Has (P:Program):Nat→TypeId→List PV→Prop
 | 0,_,_=>False
 | n+1,t,vs =>
  match P.underlying t with
  | some .bool=>∃ b,vs=[.bool b]
  | some (.int k)=>∃ x,vs=[.int k x]∧(Lit.int k x).wf=true
  | some .string=>∃ s,vs=[.str s]∧s.length≤maxLen
  | some (.slice e)=>∃ rows,vs=[.list (P.cellsOf e) rows false]∧rows.length≤maxLen∧∀ r ∈ rows,Has P n e r
  | some (.struct fs)=>zmI (Has P n) fs.toList vs
  | _=>False
def zeM (P:Program) (ts:List TypeId):List Field→Nat→Nat→Bool
 | [],o,n=>o==n
 | f::fs,o,n=>f.offset==o && (ts.contains f.type && zeM P ts fs (o+P.cellsOf f.type) n)
def zcZ (P:Program) (ts:List TypeId) (t:TypeId):Bool :=
 match P.underlying t with
 | some .bool | some (.int _) | some .string=>true
 | some (.slice e)=>ts.contains e
 | some (.struct fs)=>zeM P ts fs.toList 0 (P.cellsOf t)
 | _=>false
theorem zl2 {ts:List TypeId}:∀ {fs:List Field} {o n:Nat},zeM P ts fs o n=true→o≤n
 | [],o,n,h=>by simp[zeM] at h;omega
 | f::fs,o,n,h=>by
  simp only[zeM,Bool.and_eq_true] at h
  have:=zl2 h.2.2
  omega
def zh4 (W:World):Fz:=fun b o=>W.cell? ⟨b,o,none⟩
theorem zjv {α:Type} {p:Nat→α→Prop}:∀ n,(∀ i,i < n→∃ a,p i a)→∃ l:List α,l.length=n∧∀ (i:Nat) (a:α),l[i]?=some a→p i a
 | 0,_=>⟨[],rfl,fun i a h=>by simp at h⟩
 | n+1,h=>by
  obtain⟨l,h1,h2⟩:=zjv n fun i hi=>h i (by omega)
  obtain⟨a,ha⟩:=h n (Nat.lt_succ_self n)
  refine⟨l++[a],by simp[h1],fun i b hb=>?_⟩
  rcases Nat.lt_or_ge i n with hlt | hge
  ·rw[List.getElem?_append_left (by omega)] at hb
   exact h2 i b hb
  rw[List.getElem?_append_right (by omega)] at hb
  have:i=n:=by
   have:=(List.getElem?_eq_some_iff.1 hb).1
   simp at this
   omega
  subst this
  simp[h1] at hb
  subst hb
  exact ha
theorem zt1 (a:Addr) (i j:Nat):(a.add i).add j=a.add (i+j):=by
 unfold Addr.add
 by_cases hi:i=0
 ·subst hi;simp
 by_cases hj:j=0
 ·subst hj;simp[hi]
 simp[hi,hj,Nat.add_assoc]
theorem Addr.ext_of {x y:Addr} (h1:x.block=y.block) (h2:x.off=y.off) (h3:x.spot=y.spot):x=y:=by
 cases x
 cases y
 simp only at h1 h2 h3
 rw[h1,h2,h3]
theorem zlZ {a:Addr} {v:Value} (h:W.cell? a=some v):a.spot=none:=by
 unfold World.cell? at h
 split at h
 ·split at h
  ·cases h
  rename_i hs
  simpa using hs
 cases h
theorem opn {H:Type} {enc:TypeId × Value→H} {base:Nat} {sp:Nat→Bool} {held:Bool} {ts:List TypeId} (hts:∀ t ∈ ts,zcZ P ts t=true) (hnz:∀ t ∈ ts,P.cellsOf t≠0):∀ (fuel:Nat) (t:TypeId) (cs:List Value) (x:DataW H × List MemPlace),t ∈ ts→DataW.trod enc P W base sp held fuel t cs=some x →
  ∃ vs,Has P fuel t vs∧vs.length=cs.length∧∀ (j:Nat) (v:PV),vs[j]?=some v→∃ c:Value,cs[j]?=some c∧FR (zh4 W) v c:=by
 intro fuel
 induction fuel with
 | zero=>intro t cs x _ h;simp[DataW.trod] at h
 | succ fuel ih =>
  intro t cs x ht h
  have hcl:=hts t ht
  unfold zcZ at hcl
  have one:∀ (v:PV) (c:Value),Has P (fuel+1) t [v]→cs=[c]→FR (zh4 W) v c→∃ vs,Has P (fuel+1) t vs∧vs.length=cs.length∧∀ (j:Nat) (v:PV),vs[j]?=some v→∃ c:Value,cs[j]?=some c∧FR (zh4 W) v c:=by
   intro v c h1 h2 h3
   subst h2
   refine⟨[v],h1,rfl,fun j u hu=>?_⟩
   cases j with
   | zero=>simp at hu;subst hu;exact⟨c,rfl,h3⟩
   | succ j=>simp at hu
  split at hcl
  ·rename_i hu
   obtain⟨b,rfl,_⟩:=DataW.trod_bool hu h
   exact one _ _ (by simp only[Has,hu];exact⟨b,rfl⟩) rfl (.bool b)
  ·rename_i k hu
   obtain⟨n,rfl,_,hw⟩:=DataW.trod_int hu h
   exact one _ _ (by simp only[Has,hu];exact⟨n,rfl,hw⟩) rfl (.int k n)
  ·rename_i hu
   obtain⟨s,rfl,_,hs⟩:=DataW.trod_string hu h
   have e:s=⟨s.data.toList.toArray⟩:=by simp
   refine one (.str s.data.toList) _ (by simp only[Has,hu];exact⟨_,rfl,by rw[Array.length_toList];exact hs⟩) rfl ?_
   have:=FR.str (fz:=zh4 W) s.data.toList
   rwa [zsu] at this
  ·rename_i e hu
   have he:e ∈ ts:=by simpa using hcl
   rcases DataW.trod_slice hu h with⟨rfl,_⟩ | ⟨a,len,cap,elems,rest,n,hn,rfl,rfl,hb,hl,hm,hlen,hel,_,_⟩
   ·refine one (.list (P.cellsOf e) [] false) _ (by simp only[Has,hu];exact⟨[],rfl,Nat.zero_le _,fun r hr=>by cases hr⟩) rfl ?_
    exact .list (P.cellsOf e) [] false none 0 (fun _ _=>undef) (Nat.le_refl _) (fun h=>by cases h) (fun r hr=>by cases hr) (fun h=>absurd rfl h) (fun ad i j row v h=>by cases h) (fun i j row v hi=>by simp at hi)
   obtain rfl:fuel=n:=by omega
   have each:∀ i,i < len→∃ r:List PV,Has P fuel e r∧r.length=P.cellsOf e∧∀ (j:Nat) (v:PV),r[j]?=some v→∃ c:Value,W.cell? (a.add (i*P.cellsOf e+j))=some c∧FR (zh4 W) v c:=by
    intro i hi
    have h1:=hel i hi
    rw[List.getElem?_eq_getElem (by omega),Option.bind_eq_some_iff] at h1
    obtain⟨c,hc,hy⟩:=h1
    obtain⟨r,q1,q2,q3⟩:=ih e c _ he hy
    have hcs:=World.cells?_some hc
    refine⟨r,q1,by rw[q2];exact hcs.2.1,fun j v hj=>?_⟩
    obtain⟨u,hu',hf⟩:=q3 j v hj
    have h2:=hcs.2.2 j (by
     have:=(List.getElem?_eq_some_iff.1 hu').1
     rw[hcs.2.1] at this
     exact this)
    rw[zt1] at h2
    exact⟨u,h2.trans hu',hf⟩
   obtain⟨rows,r1,r2⟩:=zjv len each
   refine one (.list (P.cellsOf e) rows false) _ (by
    simp only[Has,hu]
    refine⟨rows,rfl,by rw[r1];exact Nat.le_trans hl hm,fun r hr=>?_⟩
    obtain⟨i,hi⟩:=List.getElem?_of_mem hr
    exact (r2 i r hi).1) rfl ?_
   have hspot:rows≠[]→P.cellsOf e≠0→a.spot=none:=by
    intro hne hz
    cases hr:rows with
    | nil=>exact absurd hr hne
    | cons r rs =>
     have h0:=r2 0 r (by rw[hr];rfl)
     cases hrr:r with
     | nil=>rw[hrr] at h0;exact absurd h0.2.1.symm hz
     | cons v vs =>
      obtain⟨c,hc,_⟩:=h0.2.2 0 v (by rw[hrr];rfl)
      have:=zlZ hc
      simpa [Addr.add] using this
   have hcells:∀ (i j:Nat) (row:List PV) (v:PV),rows[i]?=some row→row[j]?=some v→W.cell? ⟨a.block,a.off+(i*P.cellsOf e+j),none⟩=some ((W.cell? ⟨a.block,a.off+(i*P.cellsOf e+j),none⟩).getD undef)∧FR (zh4 W) v ((W.cell? ⟨a.block,a.off+(i*P.cellsOf e+j),none⟩).getD undef):=by
    intro i j row v hi hj
    obtain⟨_,q2,q3⟩:=r2 i row hi
    obtain⟨c,hc,hf⟩:=q3 j v hj
    have hs:=zlZ hc
    have ha:a.add (i*P.cellsOf e+j)=⟨a.block,a.off+(i*P.cellsOf e+j),none⟩:=by
     unfold Addr.add at hc hs ⊢
     split
     ·rename_i h0
      rw[if_pos h0] at hs
      cases a
      simp only at hs
      subst hs
      simp[h0]
     rename_i h0
     rfl
    rw[ha] at hc
    rw[hc]
    exact⟨rfl,hf⟩
   subst r1
   by_cases hsp:a.spot=none
   ·exact .list (P.cellsOf e) rows false (some a) cap (fun i j=>(W.cell? ⟨a.block,a.off+(i*P.cellsOf e+j),none⟩).getD undef) hl (fun h=>by cases h) (fun r hr=>by
     obtain⟨i,hi⟩:=List.getElem?_of_mem hr
     exact (r2 i r hi).2.1) (fun _=>⟨a,rfl,hsp⟩) (fun ad i j row v had hi hj=>by
      obtain rfl:=Option.some.inj had
      exact (hcells i j row v hi hj).1) (fun i j row v hi hj=>(hcells i j row v hi hj).2)
   by_cases hrow:rows=[]
   ·subst hrow
    exact .list (P.cellsOf e) [] false (some a) cap (fun _ _=>undef) hl (fun h=>by cases h) (fun r hr=>by cases hr) (fun h=>absurd rfl h) (fun ad i j row v _ hi=>by simp at hi) (fun i j row v hi=>by simp at hi)
   exact absurd (hspot hrow (fun hz=>hnz e he hz)) hsp
  ·rename_i fs hu
   obtain⟨xs,n,hn,_,hl,hx,hy⟩:=DataW.trod_struct hu h
   obtain rfl:fuel=n:=by omega
   have key:∀ (l:List Field) (o:Nat) (ys:List (DataW H × List MemPlace)),zeM P ts l o (P.cellsOf t)=true→ys.length=l.length→(∀ (i:Nat) (f:Field),l[i]?=some f→DataW.trod enc P W base sp held fuel f.type ((cs.drop f.offset).take (P.cellsOf f.type))=ys[i]?) →
     ∃ vs,zmI (Has P fuel) l vs∧vs.length=(cs.drop o).length∧∀ (j:Nat) (v:PV),vs[j]?=some v→∃ c:Value,(cs.drop o)[j]?=some c∧FR (zh4 W) v c:=by
    intro l
    induction l with
    | nil =>
     intro o ys hc _ _
     simp only[zeM,beq_iff_eq] at hc
     exact⟨[],rfl,by simp;omega,fun j v h=>by simp at h⟩
    | cons f l ihl =>
     intro o ys hc hyl hall
     simp only[zeM,Bool.and_eq_true,beq_iff_eq] at hc
     obtain⟨ho,hft,hc'⟩:=hc
     have hle:=zl2 hc'
     cases ys with
     | nil=>simp at hyl
     | cons y ys =>
      have h0:=hall 0 f rfl
      simp only[List.getElem?_cons_zero] at h0
      rw[ho] at h0
      obtain⟨va,a1,a2,a3⟩:=ih f.type _ y (by simpa using hft) h0
      obtain⟨vb,b1,b2,b3⟩:=ihl (o+P.cellsOf f.type) ys hc' (by simpa using hyl) (fun i f' hi=>by simpa using hall (i+1) f' (by simpa using hi))
      have hal:va.length=P.cellsOf f.type:=by
       rw[a2,List.length_take,List.length_drop]
       omega
      refine⟨va++vb,⟨va,vb,rfl,a1,b1⟩,by simp only[List.length_append,List.length_drop,hal,b2];omega,fun j v hj=>?_⟩
      rcases Nat.lt_or_ge j va.length with hlt | hge
      ·rw[List.getElem?_append_left hlt] at hj
       obtain⟨c,hc1,hc2⟩:=a3 j v hj
       rw[List.getElem?_take] at hc1
       split at hc1
       ·exact⟨c,hc1,hc2⟩
       cases hc1
      rw[List.getElem?_append_right hge] at hj
      obtain⟨c,hc1,hc2⟩:=b3 _ v hj
      refine⟨c,?_,hc2⟩
      rw[List.getElem?_drop] at hc1 ⊢
      rw[←hc1,hal]
      congr 1
      rw[hal] at hge
      omega
   obtain⟨vs,v1,v2,v3⟩:=key fs.toList 0 xs hcl (by simpa using hx) (fun i f hi=>hy i f (by simpa using hi))
   rw[List.drop_zero] at v2 v3
   exact⟨vs,by simp only[Has,hu];exact v1,v2,v3⟩
  cases hcl
end
end Go.Proofs.YtfbcnpbhhooapaaGreatDoor.M
namespace Go.Proofs.YtfbcnpbhhooapaaGreatDoor.M
open Go Go.RowKit Go.WideShapes Go.ChangeShapes Go.ChangeMaps Classical
section
variable {P:Program} {W:World}
def HasV (P:Program) (t:TypeId) (v:PV):Prop :=
 match P.underlying t with
 | some (.struct _)=>∃ vs n,v=.agg vs∧Has P n t vs
 | _=>∃ n,Has P n t [v]
def HasAll (P:Program):List TypeId→List PV→Prop
 | [],[]=>True
 | t::ts,v::vs=>HasV P t v∧HasAll P ts vs
 | _,_=>False
def gh0 (W:World):Gh:=⟨fun _ _=>none,fun _ _=>none,zh4 W⟩
abbrev zir (W:World):Base:=⟨W⟩
theorem wr0 (W:World):@WR (zir W) (gh0 W) [] W:=@WR.mk (zir W) _ _ _ (@OkB.mk (zir W) _ _ (Nat.le_refl _) (fun _ _=>rfl) (fun x k h=>by cases x <;> simp[Gh.own,gh0] at h)) (fun b o v h=>h) (fun n t b h=>by cases h) (fun n k ai h=>by cases h) (fun x y b h=>by cases x <;> simp[Gh.own,gh0] at h)
theorem zyC {H:Type} {enc:TypeId × Value→H} {base:Nat} {sp:Nat→Bool} {held:Bool} {ts:List TypeId} (hts:∀ t ∈ ts,zcZ P ts t=true) (hnz:∀ t ∈ ts,P.cellsOf t≠0) {t:TypeId} (ht:t ∈ ts) {v:Value} {d:DataW H} {ps:List MemPlace} {r:Reach} {b0:Nat}
  (hval:Value.okWide P W r b0 t v) (hd:DataW.Trod enc P W base sp held t v d ps):∃ pv,HasV P t pv∧VR (gh0 W) pv v:=by
 obtain⟨fuel,hd⟩:=hd
 obtain⟨vs,h1,h2,h3⟩:=opn hts hnz fuel t _ _ ht hd
 have hcl:=hts t ht
 unfold zcZ at hcl
 have one:v.cells=#[v]→(∀ fs,P.underlying t≠some (.struct fs))→∃ pv,HasV P t pv∧VR (gh0 W) pv v:=by
  intro hv hns
  rw[hv] at h2 h3
  match vs,h2 with
  | [pv],_ =>
   refine⟨pv,?_,?_⟩
   ·unfold HasV
    split
    ·rename_i fs hu
     exact absurd hu (hns fs)
    exact⟨fuel,h1⟩
   obtain⟨c,hc,hf⟩:=h3 0 pv rfl
   simp at hc
   subst hc
   exact .data _ _ hf
 split at hcl
 ·rename_i hu
  obtain⟨b,rfl⟩:=okWide_bool hu hval
  exact one rfl (fun fs h=>by rw[hu] at h;cases h)
 ·rename_i k hu
  obtain⟨b,rfl⟩:=okWide_int hu hval
  exact one rfl (fun fs h=>by rw[hu] at h;cases h)
 ·rename_i hu
  obtain⟨b,rfl⟩:=okWide_string hu hval
  exact one rfl (fun fs h=>by rw[hu] at h;cases h)
 ·rename_i e hu
  obtain⟨A,n,c,rfl⟩:=okWide_slice hu hval
  exact one rfl (fun fs h=>by rw[hu] at h;cases h)
 ·rename_i fs hu
  obtain⟨cs,rfl,_⟩:=okWide_struct hu hval
  refine⟨.agg vs,?_,?_⟩
  ·unfold HasV
   rw[hu]
   exact⟨vs,fuel,rfl,h1⟩
  have e:(Value.agg cs).cells=cs:=by simp[Value.cells]
  rw[e] at h2 h3
  refine .agg vs _ (by simpa using h2) fun i u hi=>?_
  obtain⟨c,hc,hf⟩:=h3 i u hi
  have:cs.getD i undef=c:=by
   rw[Array.getD_eq_getD_getElem?]
   have:cs[i]?=some c:=by simpa using hc
   simp[this]
  rw[this]
  exact .data _ _ hf
 cases hcl
theorem zro {H:Type} {enc:TypeId × Value→H} {base:Nat} {sp:Nat→Bool} {held:Bool} {ts:List TypeId} (hts:∀ t ∈ ts,zcZ P ts t=true) (hnz:∀ t ∈ ts,P.cellsOf t≠0) {r:Reach} {b0:Nat}:∀ (tys:List TypeId) (args:List Value) (ds:List (DataW H)) (ps:List MemPlace),
  (∀ t ∈ tys,t ∈ ts)→(∀ (j:Nat) (t:TypeId) (v:Value),tys[j]?=some t→args[j]?=some v→Value.okWide P W r b0 t v)→DataW.TrodAll enc P W base sp held tys args ds ps →
  ∃ pvs,HasAll P tys pvs∧pvs.length=args.length∧∀ (i:Nat) (v:PV),pvs[i]?=some v→∃ c,args[i]?=some c∧VR (gh0 W) v c
 | [],args,ds,ps,_,_,h=>by
  obtain⟨rfl,_,_⟩:=trodAll_nil h
  exact⟨[],trivial,rfl,fun i v h=>by simp at h⟩
 | t::tys,args,ds,ps,hsub,hval,h=>by
  obtain⟨v,vs',d,ds',p,q,rfl,rfl,rfl,h1,h2⟩:=trodAll_cons h
  obtain⟨pv,a1,a2⟩:=zyC hts hnz (hsub t (by simp)) (hval 0 t v rfl rfl) h1
  obtain⟨pvs,b1,b2,b3⟩:=zro hts hnz tys vs' ds' q (fun t ht=>hsub t (by simp[ht])) (fun j t v h3 h4=>hval (j+1) t v (by simpa using h3) (by simpa using h4)) h2
  refine⟨pv::pvs,⟨a1,b1⟩,by simp[b2],fun i u hi=>?_⟩
  cases i with
  | zero=>simp at hi;subst hi;exact⟨v,rfl,a2⟩
  | succ i=>simpa using b3 i u (by simpa using hi)
theorem zoq {f:Nat} {fn:Func} {sf:zh} (hf:P.funcs[f]?=some fn) (hc:comp P fn=some sf) (cs:Array Value) (w:World):(callFunc f cs).run P w=.ok (.enter f cs) w:=by
 unfold comp at hc
 split at hc
 ·rename_i c hbody
  split at hc
  ·split at hc
   ·rename_i hcnd
    unfold callFunc
    simp[hf,hcnd.2,hbody]
   cases hc
  cases hc
 cases hc
theorem zp9 {ts:List TypeId} (h:ts.all (fun t=>zcZ P ts t && decide (P.cellsOf t≠0))=true):(∀ t ∈ ts,zcZ P ts t=true)∧∀ t ∈ ts,P.cellsOf t≠0:=by
 rw[List.all_eq_true] at h
 refine⟨fun t ht=>?_,fun t ht=>?_⟩
 ·have:=h t ht;simp only[Bool.and_eq_true] at this;exact this.1
 have:=h t ht;simp only[Bool.and_eq_true,decide_eq_true_eq] at this;exact this.2
theorem zA0 (hm:P.follows .mixedOrders=true) {x:Nat→Option XF} (hx:∀ f y,x f=some y→@XOk (zir W) P f y) {f:Nat} {fn:Func} {sf:zh} (hf:P.funcs[f]?=some fn) (hc:comp P fn=some sf)
  {H:Type} {enc:TypeId × Value→H} {base:Nat} {sp:Nat→Bool} {held:Bool} {ts:List TypeId} (hts:ts.all (fun t=>zcZ P ts t && decide (P.cellsOf t≠0))=true) {r:Reach} {b0:Nat} {tys:List TypeId} {args:Array Value} {ds:List (DataW H)} {ps:List MemPlace}
  (hsub:tys.all (fun t=>ts.contains t)=true) (hval:∀ (j:Nat) (t:TypeId) (v:Value),tys[j]?=some t→args[j]?=some v→Value.okWide P W r b0 t v) (hA:DataW.TrodAll enc P W base sp held tys args.toList ds ps)
  (spec:∀ pvs,HasAll P tys pvs→call (zfF P x) f pvs []=.ok (.v (.bool true)) []):Calls P f args W fun e W'=>e=.returned (.bool true)∧Below W.heap.size W W':=by
 letI:Base:=zir W
 obtain⟨h1,h2⟩:=zp9 hts
 obtain⟨pvs,a1,a2,a3⟩:=zro h1 h2 tys args.toList ds ps (fun t ht=>by have:=List.all_eq_true.1 hsub t ht;simpa using this) (fun j t v h3 h4=>hval j t v h3 (by simpa using h4)) hA
 have hs:=spec pvs a1
 have ha:=zpR hm hx f pvs [] (by rw[hs];exact fun h=>by cases h) (gh0 W) W args (wr0 W) ⟨by simpa using a2,fun i v hi=>by
  obtain⟨c,hc1,hc2⟩:=a3 i v hi
  have:args.getD i undef=c:=by
   rw[Array.getD_eq_getD_getElem?]
   have:args[i]?=some c:=by simpa using hc1
   simp[this]
  rw[this]
  exact hc2⟩
 rw[hs] at ha
 rcases ha with⟨_,ha⟩ | ⟨c,w',h3,_⟩
 ·refine ha.mono fun e W' hR=>?_
  cases e with
  | panicked ch=>exact hR.elim
  | outgrown=>exact hR.elim
  | returned c =>
   obtain⟨g',_,_,t,ret,_⟩:=hR
   refine⟨?_,t.os,t.tape,t.output,t.size,fun k hk=>t.keep k hk fun x h=>by cases x <;> simp[Gh.own,gh0] at h⟩
   have:=VR.bool_inv ret
   rw[this]
 rw[zoq hf hc] at h3
 cases h3
end
end Go.Proofs.YtfbcnpbhhooapaaGreatDoor.M
namespace Go.Proofs.YtfbcnpbhhooapaaGreatDoor.M
open Go Go.RowKit Go.Lib Classical
section
variable [Base] {g g':Gh} {S S':Sto} {w w':World} {P:Program}
theorem znA {v:PV} {c:Value} (hw:WR g S w) (hb:Below w.heap.size w w') (hv:VR g v c):zap g S w (.ok (.v v) S) (.returned c) w':=by
 have hwr:WR g S w':=hw.keep (fun b o v h=>by
  have:=hw.fz b o v h
  have hlt:=zc6 this
  unfold World.cell? at this ⊢
  rw[hb.block b hlt]
  exact this) (fun x b h=>hb.block b (hw.own_lt h)) hb.size (fun k hk=>hb.block k hk)
 exact⟨g,hwr,Ext.refl g,⟨hb.os,hb.tape,hb.output,hb.size,fun _ _ _ h=>h,fun k hk _=>hb.block k hk,fun x k h=>.inl h,Ext.refl _⟩,hv,rfl⟩
theorem ext_of {f:Nat} {fn:Func} {c:Code} (hf:P.funcs[f]?=some fn) (hb:fn.body=some c) (hn:fn.name ≠ "runtime.NumGoroutine") {x:List PV→Option PV}
  (h:∀ args v,x args=some v→∀ g S w cs,WR g S w→zcG g args cs→Calls P f cs w fun e w'=>∃ u,e=.returned u∧VR g v u∧Below w.heap.size w w'):zdk P f x:=by
 intro args v hx g S w cs hw ha
 left
 refine⟨?_,?_⟩
 ·unfold callFunc
  simp[hf,hn,hb]
 refine (h args v hx g S w cs hw ha).mono fun e w' ⟨u,he,hv,hbl⟩=>?_
 subst he
 exact znA hw hbl hv
theorem zp3 {v:PV} {cs:Array Value} (h:zcG g [v] cs):∃ c,cs=#[c]∧VR g v c:=by
 obtain⟨h1,h2⟩:=h
 have:=h2 0 v rfl
 refine⟨cs.getD 0 undef,?_,this⟩
 obtain⟨l⟩:=cs
 match l,h1 with
 | [c],_=>rfl
theorem zi3 {v u:PV} {cs:Array Value} (h:zcG g [v,u] cs):∃ c d,cs=#[c,d]∧VR g v c∧VR g u d:=by
 obtain⟨h1,h2⟩:=h
 refine⟨cs.getD 0 undef,cs.getD 1 undef,?_,h2 0 v rfl,h2 1 u rfl⟩
 obtain⟨l⟩:=cs
 match l,h1 with
 | [c,d],_=>rfl
def zmG:List PV→Option PV
 | [.int .i64 n]=>if -9223372036854775808≤n∧n≤9223372036854775807 then some (.str (Lib.itoa n)) else none
 | _=>none
theorem ztn {f:Nat} {fn:Func} {c:Code} (hf:P.funcs[f]?=some fn) (hb:fn.body=some c) (hn:fn.name ≠ "runtime.NumGoroutine") {name:String} {k:IntKind} {zs:List Int} (hT:Lib.TabIs P Base.base name k zs)
  (h:∀ (n:Int),-9223372036854775808≤n→n≤9223372036854775807→∀ w:World,Lib.TabIs P w name k zs→Calls P f #[.int .i64 n] w fun e w'=>e=.returned (.string ⟨(Lib.itoa n).toArray⟩)∧∃ k os,w'=Sort.grow (w.drewN k) os):zdk P f zmG:=by
 refine ext_of hf hb hn fun args v hx g S w cs hw ha=>?_
 unfold zmG at hx
 split at hx
 ·rename_i n
  split at hx
  ·rename_i hn
   obtain rfl:=Option.some.inj hx
   obtain⟨c,rfl,hv⟩:=zp3 ha
   obtain rfl:=VR.int_inv hv
   have hT':Lib.TabIs P w name k zs:=by
    unfold Lib.TabIs World.var? at hT ⊢
    cases hg:P.globalNamed name with
    | none=>rw[hg] at hT;cases hT
    | some b =>
     rw[hg] at hT
     simp only[Option.bind_some] at hT ⊢
     have hlt:b < Base.base.heap.size:=by
      rcases Nat.lt_or_ge b Base.base.heap.size with hlt | hge
      ·exact hlt
      rw[Array.getElem?_eq_none hge] at hT;cases hT
     rw[hw.ok.keep b hlt]
     exact hT
   refine (h n hn.1 hn.2 w hT').mono fun e w' ⟨he,k,os,hw'⟩=>?_
   subst hw'
   exact⟨_,he,.data _ _ (.str _),below_grow _ _ (Nat.le_refl _) _ _⟩
  cases hx
 cases hx
def zqk:List PV→Option PV
 | [.bool b]=>some (.str (Lib.formatBool b))
 | _=>none
theorem zt3 {f:Nat} {fn:Func} {c:Code} (hf:P.funcs[f]?=some fn) (hb:fn.body=some c) (hn:fn.name ≠ "runtime.NumGoroutine")
  (h:∀ (b:Bool) (w:World),Calls P f #[.bool b] w fun e w'=>e=.returned (.string ⟨(Lib.formatBool b).toArray⟩)∧w'=w):zdk P f zqk:=by
 refine ext_of hf hb hn fun args v hx g S w cs hw ha=>?_
 unfold zqk at hx
 split at hx
 ·obtain rfl:=Option.some.inj hx
  obtain⟨c,rfl,hv⟩:=zp3 ha
  obtain rfl:=VR.bool_inv hv
  refine (h _ w).mono fun e w' ⟨he,hw'⟩=>?_
  subst hw'
  exact⟨_,he,.data _ _ (.str _),Below.refl _ _⟩
 cases hx
def zld:List PV→Option PV
 | [.str s,.int .i64 n]=>if 0≤n∧n≤9223372036854775807∧s.length*n.toNat≤140737488355328 then some (.str (Lib.repeatL s n.toNat)) else none
 | _=>none
theorem zqy {f:Nat} {fn:Func} {c:Code} (hf:P.funcs[f]?=some fn) (hb:fn.body=some c) (hn:fn.name ≠ "runtime.NumGoroutine")
  (h:∀ (s:ByteArray) (c:Nat) (w:World),c≤9223372036854775807→s.size*c≤140737488355328→Calls P f #[.string s,.int .i64 c] w fun e w'=>e=.returned (.string ⟨(Lib.repeatL s.data.toList c).toArray⟩)∧Below w.heap.size w w'):zdk P f zld:=by
 refine ext_of hf hb hn fun args v hx g S w cs hw ha=>?_
 unfold zld at hx
 split at hx
 ·rename_i s n
  split at hx
  ·rename_i hc
   obtain rfl:=Option.some.inj hx
   obtain⟨c,d,rfl,hv,hu⟩:=zi3 ha
   obtain rfl:=VR.int_inv hu
   obtain rfl:=VR.str_inv hv
   obtain⟨k,rfl⟩:∃ k:Nat,n=k:=⟨n.toNat,by omega⟩
   refine (h ⟨s.toArray⟩ k w (by omega) (by simpa [ByteArray.size] using hc.2.2)).mono fun e w' ⟨he,hb⟩=>?_
   exact⟨_,he,.data _ _ (by simpa using FR.str (fz:=g.fz) (Lib.repeatL s k)),hb⟩
  cases hx
 cases hx
end
section
variable [Base] {g g':Gh} {S S':Sto} {w w':World} {P:Program}
theorem zeH {b:Nat} {v:Value} (h:Base.base.cell? ⟨b,0,none⟩=some v) (hw:WR g S w):w.cell? ⟨b,0,none⟩=some v:=by
 have hlt:=zc6 h
 unfold World.cell? at h ⊢
 rw[hw.ok.keep b hlt]
 exact h
theorem zlw {a b:PV} {c d:Value} (h1:VR g a c) (h2:VR g b d):VR g (.tup [a,b]) (.tuple #[c,d]):=by
 refine .tup _ _ rfl fun i v h=>?_
 match i with
 | 0=>obtain rfl:=Option.some.inj h;exact h1
 | 1=>obtain rfl:=Option.some.inj h;exact h2
 | i+2=>cases h
theorem zxB {a b x:PV} {c d y:Value} (h1:VR g a c) (h2:VR g b d) (h3:VR g x y):VR g (.tup [a,b,x]) (.tuple #[c,d,y]):=by
 refine .tup _ _ rfl fun i v h=>?_
 match i with
 | 0=>obtain rfl:=Option.some.inj h;exact h1
 | 1=>obtain rfl:=Option.some.inj h;exact h2
 | 2=>obtain rfl:=Option.some.inj h;exact h3
 | i+3=>cases h
theorem znx (s:List UInt8):VR g (.str s) (.string ⟨s.toArray⟩):=.data _ _ (FR.str (fz:=g.fz) s)
def zqb:List PV→Option PV
 | [.str s,.str sep]=>if s.length < 4294967281 then some (.tup [.str (Lib.cut s sep).1,.str (Lib.cut s sep).2.1,.bool (Lib.cut s sep).2.2]) else none
 | _=>none
theorem zxi {f:Nat} {fn:Func} {c:Code} (hf:P.funcs[f]?=some fn) (hb:fn.body=some c) (hn:fn.name ≠ "runtime.NumGoroutine") {b:Nat} (hM:∃ m,Base.base.cell? ⟨b,0,none⟩=some (.int .i64 m))
  (h:∀ (s sep:ByteArray) (m:Int) (w:World),s.size < 4294967281→w.cell? ⟨b,0,none⟩=some (.int .i64 m)→Calls P f #[.string s,.string sep] w fun e w'=>e=.returned (.tuple #[.string ⟨(Lib.cut s.data.toList sep.data.toList).1.toArray⟩,.string ⟨(Lib.cut s.data.toList sep.data.toList).2.1.toArray⟩,.bool (Lib.cut s.data.toList sep.data.toList).2.2])∧∃ n,w'=w.drewN n):zdk P f zqb:=by
 refine ext_of hf hb hn fun args v hx g S w cs hw ha=>?_
 unfold zqb at hx
 split at hx
 ·rename_i s sep
  split at hx
  ·rename_i hc
   obtain rfl:=Option.some.inj hx
   obtain⟨c,d,rfl,hv,hu⟩:=zi3 ha
   obtain rfl:=VR.str_inv hv
   obtain rfl:=VR.str_inv hu
   obtain⟨m,hm⟩:=hM
   refine (h ⟨s.toArray⟩ ⟨sep.toArray⟩ m w (by simpa [ByteArray.size] using hc) (zeH hm hw)).mono fun e w' ⟨he,k,hk⟩=>?_
   subst hk
   exact⟨_,he,zxB (znx _) (znx _) (.data _ _ (.bool _)),below_drewN (Below.refl _ _) _⟩
  cases hx
 cases hx
def zig:List PV→Option PV
 | [.str s,.int .u8 n]=>some (.int .i64 (Lib.indexByte s n.toNat.toUInt8))
 | _=>none
theorem zs9 {f:Nat} {fn:Func} {c:Code} (hf:P.funcs[f]?=some fn) (hb:fn.body=some c) (hn:fn.name ≠ "runtime.NumGoroutine")
  (h:∀ (s:ByteArray) (c:Int) (w:World),Calls P f #[.string s,.int .u8 c] w fun e w'=>e=.returned (.int .i64 (Lib.indexByte s.data.toList c.toNat.toUInt8))∧w'=w):zdk P f zig:=by
 refine ext_of hf hb hn fun args v hx g S w cs hw ha=>?_
 unfold zig at hx
 split at hx
 ·rename_i s n
  obtain rfl:=Option.some.inj hx
  obtain⟨c,d,rfl,hv,hu⟩:=zi3 ha
  obtain rfl:=VR.int_inv hu
  obtain rfl:=VR.str_inv hv
  refine (h ⟨s.toArray⟩ n w).mono fun e w' ⟨he,hw'⟩=>?_
  subst hw'
  exact⟨_,he,.data _ _ (by simpa using FR.int (fz:=g.fz) _ _),Below.refl _ _⟩
 cases hx
def zjp:List PV→Option PV
 | [.str s,.str p]=>some (.bool (Lib.hasPrefix s p))
 | _=>none
theorem zpS {f:Nat} {fn:Func} {c:Code} (hf:P.funcs[f]?=some fn) (hb:fn.body=some c) (hn:fn.name ≠ "runtime.NumGoroutine")
  (h:∀ (s p:ByteArray) (w:World),Calls P f #[.string s,.string p] w fun e w'=>e=.returned (.bool (Lib.hasPrefix s.data.toList p.data.toList))∧w'=w):zdk P f zjp:=by
 refine ext_of hf hb hn fun args v hx g S w cs hw ha=>?_
 unfold zjp at hx
 split at hx
 ·rename_i s p
  obtain rfl:=Option.some.inj hx
  obtain⟨c,d,rfl,hv,hu⟩:=zi3 ha
  obtain rfl:=VR.str_inv hv
  obtain rfl:=VR.str_inv hu
  refine (h ⟨s.toArray⟩ ⟨p.toArray⟩ w).mono fun e w' ⟨he,hw'⟩=>?_
  subst hw'
  exact⟨_,he,.data _ _ (.bool _),Below.refl _ _⟩
 cases hx
def zgc:List PV→Option PV
 | [.str s,.str p]=>if s.length < 4294967281 then some (.bool (Lib.contains s p)) else none
 | _=>none
theorem znX {f:Nat} {fn:Func} {c:Code} (hf:P.funcs[f]?=some fn) (hb:fn.body=some c) (hn:fn.name ≠ "runtime.NumGoroutine") {b:Nat} (hM:∃ m,Base.base.cell? ⟨b,0,none⟩=some (.int .i64 m))
  (h:∀ (s sub:ByteArray) (m:Int) (w:World),s.size < 4294967281→w.cell? ⟨b,0,none⟩=some (.int .i64 m)→Calls P f #[.string s,.string sub] w fun e w'=>e=.returned (.bool (Lib.contains s.data.toList sub.data.toList))∧w'=w):zdk P f zgc:=by
 refine ext_of hf hb hn fun args v hx g S w cs hw ha=>?_
 unfold zgc at hx
 split at hx
 ·rename_i s p
  split at hx
  ·rename_i hc
   obtain rfl:=Option.some.inj hx
   obtain⟨c,d,rfl,hv,hu⟩:=zi3 ha
   obtain rfl:=VR.str_inv hv
   obtain rfl:=VR.str_inv hu
   obtain⟨m,hm⟩:=hM
   refine (h ⟨s.toArray⟩ ⟨p.toArray⟩ m w (by simpa [ByteArray.size] using hc) (zeH hm hw)).mono fun e w' ⟨he,hw'⟩=>?_
   subst hw'
   exact⟨_,he,.data _ _ (.bool _),Below.refl _ _⟩
  cases hx
 cases hx
def zfx:List PV→Option PV
 | [.str s,.str old,.str new]=>if s.length < 4294967281∧1≤old.length∧s.length+Lib.countB ⟨s.toArray⟩ ⟨old.toArray⟩*new.length≤140737488355328 then some (.str (Lib.replaceAll s old new)) else none
 | _=>none
theorem zAY {v u x:PV} {cs:Array Value} (h:zcG g [v,u,x] cs):∃ c d e,cs=#[c,d,e]∧VR g v c∧VR g u d∧VR g x e:=by
 obtain⟨h1,h2⟩:=h
 refine⟨cs.getD 0 undef,cs.getD 1 undef,cs.getD 2 undef,?_,h2 0 v rfl,h2 1 u rfl,h2 2 x rfl⟩
 obtain⟨l⟩:=cs
 match l,h1 with
 | [c,d,e],_=>rfl
theorem zoG {f:Nat} {fn:Func} {c:Code} (hf:P.funcs[f]?=some fn) (hb:fn.body=some c) (hn:fn.name ≠ "runtime.NumGoroutine") {b:Nat} (hM:∃ m,Base.base.cell? ⟨b,0,none⟩=some (.int .i64 m))
  (h:∀ (s old new:ByteArray) (m:Int) (w:World),s.size < 4294967281→w.cell? ⟨b,0,none⟩=some (.int .i64 m)→1≤old.size→s.size+Lib.countB s old*new.size≤140737488355328→Calls P f #[.string s,.string old,.string new] w fun e w'=>e=.returned (.string ⟨(Lib.replaceAll s.data.toList old.data.toList new.data.toList).toArray⟩)∧Below w.heap.size w w'):zdk P f zfx:=by
 refine ext_of hf hb hn fun args v hx g S w cs hw ha=>?_
 unfold zfx at hx
 split at hx
 ·rename_i s old new
  split at hx
  ·rename_i hc
   obtain rfl:=Option.some.inj hx
   obtain⟨c,d,e,rfl,hv,hu,hx⟩:=zAY ha
   obtain rfl:=VR.str_inv hv
   obtain rfl:=VR.str_inv hu
   obtain rfl:=VR.str_inv hx
   obtain⟨m,hm⟩:=hM
   refine (h ⟨s.toArray⟩ ⟨old.toArray⟩ ⟨new.toArray⟩ m w (by simpa [ByteArray.size] using hc.1) (zeH hm hw) (by simpa [ByteArray.size] using hc.2.1) (by simpa [ByteArray.size] using hc.2.2)).mono fun e w' ⟨he,hb⟩=>?_
   exact⟨_,he,znx _,hb⟩
  cases hx
 cases hx
def eE (t:Nat) (e:Bool):PV:=if e then .iface t .junk else .nile
theorem zoK (t:Nat) (e:Bool):zi4 false (eE t e)=some (.bool (!e)):=by cases e <;> rfl
theorem zoT (t:Nat) (e:Bool):zi4 true (eE t e)=some (.bool e):=by cases e <;> rfl
def zi8 (t:Nat):List PV→Option PV
 | [.str s]=>if s.length≤281474976710656 then match Lib.atoiAll s with
  | .ok v=>some (.tup [.int .i64 v,eE t false])
  | .syntax=>some (.tup [.int .i64 0,eE t true])
  | .range=>some (.tup [.int .i64 (Lib.atoiSat s),eE t true]) else none
 | _=>none
theorem zuP {f:Nat} {fn:Func} {c:Code} {t:Nat} (hf:P.funcs[f]?=some fn) (hb:fn.body=some c) (hn:fn.name ≠ "runtime.NumGoroutine") {b1 b2:Nat} {z:TypeId} (h1:∃ te pe,Base.base.cell? ⟨b1,0,none⟩=some (.iface te pe)) (h2:∃ te pe,Base.base.cell? ⟨b2,0,none⟩=some (.iface te pe))
  (hk:∀ (s:ByteArray) (v:Int) (w:World),s.size≤9223372036854775806→Lib.atoiAll s.data.toList=.ok v→Calls P f #[.string s] w fun e w'=>e=.returned (.tuple #[.int .i64 v,.nilIface])∧(w'=w∨∃ t,w'=Lib.bytesWorld w z t))
  (hs:∀ (s:ByteArray) (te:TypeId) (pe:Value) (w:World),s.size≤281474976710656→Lib.atoiAll s.data.toList=.syntax→w.cell? ⟨b1,0,none⟩=some (.iface te pe)→Calls P f #[.string s] w fun e w'=>∃ u,e=.returned (.tuple #[.int .i64 0,.iface t u])∧Below w.heap.size w w')
  (hr:∀ (s:ByteArray) (te:TypeId) (pe:Value) (w:World),s.size≤281474976710656→Lib.atoiAll s.data.toList=.range→w.cell? ⟨b2,0,none⟩=some (.iface te pe)→Calls P f #[.string s] w fun e w'=>∃ u,e=.returned (.tuple #[.int .i64 (Lib.atoiSat s.data.toList),.iface t u])∧Below w.heap.size w w'):zdk P f (zi8 t):=by
 refine ext_of hf hb hn fun args v hx g S w cs hw ha=>?_
 unfold zi8 at hx
 split at hx
 ·rename_i s
  split at hx
  ·rename_i hc
   obtain⟨c,rfl,hv⟩:=zp3 ha
   obtain rfl:=VR.str_inv hv
   split at hx
   ·rename_i n hn
    obtain rfl:=Option.some.inj hx
    refine (hk ⟨s.toArray⟩ n w (by simp[ByteArray.size];omega) (by simpa using hn)).mono fun e w' ⟨he,hw'⟩=>?_
    refine⟨_,he,zlw (.data _ _ (.int _ _)) (.data _ _ .nili),?_⟩
    rcases hw' with rfl | ⟨t,rfl⟩
    ·exact Below.refl _ _
    exact Lib.bytesWorld_below _ _ _
   ·rename_i hn
    obtain rfl:=Option.some.inj hx
    obtain⟨te,pe,he⟩:=h1
    refine (hs ⟨s.toArray⟩ te pe w (by simpa [ByteArray.size] using hc) (by simpa using hn) (zeH he hw)).mono fun e w' ⟨u,he,hb⟩=>?_
    exact⟨_,he,zlw (.data _ _ (.int _ _)) (.iface _ _ _ (.junk _)),hb⟩
   rename_i hn
   obtain rfl:=Option.some.inj hx
   obtain⟨te,pe,he⟩:=h2
   refine (hr ⟨s.toArray⟩ te pe w (by simpa [ByteArray.size] using hc) (by simpa using hn) (zeH he hw)).mono fun e w' ⟨u,he,hb⟩=>?_
   exact⟨_,he,zlw (.data _ _ (by simpa using FR.int (fz:=g.fz) _ _)) (.iface _ _ _ (.junk _)),hb⟩
  cases hx
 cases hx
end
end Go.Proofs.YtfbcnpbhhooapaaGreatDoor.M
namespace Go.Proofs.YtfbcnpbhhooapaaGreatDoor.M
open Go
section
variable {P:Program}
theorem HasAll.cons_inv {t:TypeId} {ts:List TypeId} {pvs:List PV} (h:HasAll P (t::ts) pvs):∃ v vs,pvs=v::vs∧HasV P t v∧HasAll P ts vs:=by
 cases pvs with
 | nil=>exact h.elim
 | cons v vs=>exact⟨v,vs,rfl,h⟩
theorem HasAll.nil_inv {pvs:List PV} (h:HasAll P [] pvs):pvs=[]:=by
 cases pvs with
 | nil=>rfl
 | cons v vs=>exact h.elim
theorem Has.int {n:Nat} {t:TypeId} {k:IntKind} {vs:List PV} (h:Has P n t vs) (ht:P.underlying t=some (.int k)):∃ x,vs=[.int k x]∧(Lit.int k x).wf=true:=by
 cases n with
 | zero=>exact h.elim
 | succ n=>simp only[Has,ht] at h;exact h
theorem Has.bool {n:Nat} {t:TypeId} {vs:List PV} (h:Has P n t vs) (ht:P.underlying t=some .bool):∃ x,vs=[.bool x]:=by
 cases n with
 | zero=>exact h.elim
 | succ n=>simp only[Has,ht] at h;exact h
theorem Has.str {n:Nat} {t:TypeId} {vs:List PV} (h:Has P n t vs) (ht:P.underlying t=some .string):∃ x,vs=[.str x]∧x.length≤maxLen:=by
 cases n with
 | zero=>exact h.elim
 | succ n=>simp only[Has,ht] at h;exact h
theorem Has.slice {n:Nat} {t e:TypeId} {vs:List PV} (h:Has P (n+1) t vs) (ht:P.underlying t=some (.slice e)):∃ rows,vs=[.list (P.cellsOf e) rows false]∧rows.length≤maxLen∧∀ r ∈ rows,Has P n e r:=by
 simp only[Has,ht] at h
 exact h
theorem Has.struct {n:Nat} {t:TypeId} {fs:Array Field} {vs:List PV} (h:Has P (n+1) t vs) (ht:P.underlying t=some (.struct fs)):zmI (Has P n) fs.toList vs:=by
 simp only[Has,ht] at h
 exact h
theorem HasV.int {t:TypeId} {k:IntKind} {v:PV} (h:HasV P t v) (ht:P.underlying t=some (.int k)):∃ x,v=.int k x∧(Lit.int k x).wf=true:=by
 unfold HasV at h
 rw[ht] at h
 obtain⟨n,h⟩:=h
 obtain⟨x,h1,h2⟩:=h.int ht
 simp at h1
 exact⟨x,h1,h2⟩
theorem HasV.bool {t:TypeId} {v:PV} (h:HasV P t v) (ht:P.underlying t=some .bool):∃ x,v=.bool x:=by
 unfold HasV at h
 rw[ht] at h
 obtain⟨n,h⟩:=h
 obtain⟨x,h1⟩:=h.bool ht
 simp at h1
 exact⟨x,h1⟩
theorem HasV.str {t:TypeId} {v:PV} (h:HasV P t v) (ht:P.underlying t=some .string):∃ x,v=.str x∧x.length≤maxLen:=by
 unfold HasV at h
 rw[ht] at h
 obtain⟨n,h⟩:=h
 obtain⟨x,h1,h2⟩:=h.str ht
 simp at h1
 exact⟨x,h1,h2⟩
theorem HasV.slice {t e:TypeId} {v:PV} (h:HasV P t v) (ht:P.underlying t=some (.slice e)):∃ rows n,v=.list (P.cellsOf e) rows false∧rows.length≤maxLen∧∀ r ∈ rows,Has P n e r:=by
 unfold HasV at h
 rw[ht] at h
 obtain⟨n,h⟩:=h
 cases n with
 | zero=>exact h.elim
 | succ n =>
  obtain⟨x,h1,h2,h3⟩:=h.slice ht
  simp at h1
  exact⟨x,n,h1,h2,h3⟩
theorem HasV.struct {t:TypeId} {fs:Array Field} {v:PV} (h:HasV P t v) (ht:P.underlying t=some (.struct fs)):∃ vs n,v=.agg vs∧Has P (n+1) t vs:=by
 unfold HasV at h
 rw[ht] at h
 obtain⟨vs,n,h1,h2⟩:=h
 cases n with
 | zero=>exact h2.elim
 | succ n=>exact⟨vs,n,h1,h2⟩
theorem HasV.agg {t:TypeId} {fs:Array Field} {v:PV} (h:HasV P t v) (ht:P.underlying t=some (.struct fs)):∃ vs n,v=.agg vs∧Has P n t vs:=by
 obtain⟨vs,n,h1,h2⟩:=h.struct ht
 exact⟨vs,n+1,h1,h2⟩
theorem HasV.one {t:TypeId} {u:TypeDesc} {v:PV} (h:HasV P t v) (ht:P.underlying t=some u) (hu:∀ fs,u≠.struct fs):∃ n,Has P n t [v]:=by
 unfold HasV at h
 rw[ht] at h
 cases u <;> first
  | exact h
  | exact absurd rfl (hu _)
theorem Has.zero {t:TypeId} {vs:List PV} (h:Has P 0 t vs):False:=h
theorem range {k:IntKind} {x:Int} (h:(Lit.int k x).wf=true):k.min≤x∧x≤k.max:=by
 simp only[Lit.wf,Bool.and_eq_true,decide_eq_true_eq] at h
 exact h
end
end Go.Proofs.YtfbcnpbhhooapaaGreatDoor.M
namespace Go.Proofs.YtfbcnpbhhooapaaGreatDoor.M
open Go Classical
section
variable [Base] {g g':Gh} {S S':Sto} {w w':World} {P:Program}
theorem ztC {cl:zi} (hcl:zak P cl) (hm:P.follows .mixedOrders=true) {n:Nat} {b:Code} {sb:SC} (hb:zaj P n b=some sb) {N l:Nat} {Q:Exit→Act→World→Prop} {sa:SC} {ac:Ac} (hl:ac.S.length=l) (hp:EPost [] n g l w Q (evC cl N (.seq sa sb) ac)) :
    EPost [] n g l w (Exit.then (b.wp P Q) Q) (evC cl N sa ac):=by
  have hbad:evC cl N sa ac≠.bad:=fun e=>by
    simp only[evC,e] at hp
    exact hp
  refine EPost.behind hbad (fun hnn=>?_) (fun ac' he a' w' g' h1 h2 h3=>?_)
  ·simp only[evC] at hp
   cases he:evC cl N sa ac with
   | nor ac'=>exact absurd he (hnn ac')
   | _=>rw[he] at hp;exact hp
  simp only[evC,he] at hp
  exact zgF hcl hm b sb hb N h1 (by rw[h3];exact hp.from h2)
theorem zoC {sz:Nat} {rows:List (List PV)} {c:Value} (h:zap g S w (.ok (.arr sz rows false) S') (.returned c) w'):zap g S w (.ok (.v (.list sz rows false)) S') (.returned c) w':=by
  obtain⟨g1,w1,x1,t1,⟨ai,hA,rfl,hb⟩,l1⟩:=h
  obtain⟨cs,c1,c2⟩:=hA.cells
  by_cases hr:rows=[]
  ·subst hr
   refine⟨g1,w1,x1,t1,?_,l1⟩
   have e0:ai.len=([]:List (List PV)).length:=hA.len
   rw[e0]
   exact .data _ _ (.list sz [] false ai.A ai.cap (fun _ _=>undef) (Nat.zero_le _) (fun h=>by cases h) (fun r hr=>by cases hr) (fun h=>absurd rfl h) (fun ad i j row v _ hi=>by simp at hi) (fun i j row v hi=>by simp at hi))
  have hbk:∃ b,ai.blk=some b:=by
    cases hbk:ai.blk with
    | some b=>exact⟨b,rfl⟩
    | none =>
      rcases (hA.free hbk).2 with h | h
      ·cases h
      exact absurd h hr
  obtain⟨b,hbk⟩:=hbk
  obtain⟨hb1,hb2⟩:=hb b hbk
  obtain⟨hA1,⟨cells,elem,hc1,hc2⟩,_,hfz⟩:=hA.own b hbk
  have hfz':=hfz rfl
  obtain⟨p1,p2⟩:=w1.fzMore (φ:=fun b' o=>if b'=b then w'.cell? ⟨b',o,none⟩ else g1.fz b' o) (fun b' o v hh=>by
    split at hh
    ·exact hh
    ·exact w1.fz b' o v hh) (fun b' o v hh=>by
    rw[if_neg]
    ·exact hh
    ·rintro rfl
     rw[hfz'] at hh
     cases hh) (fun x b' hx o=>by
    rw[if_neg]
    rintro rfl
    exact hb2 x hx)
  refine⟨_,p1,x1.trans p2,t1.trans ⟨rfl,rfl,rfl,Nat.le_refl _,p2.fz,fun _ _ _=>rfl,fun x k h=>.inl h,p2.pop_⟩,?_,l1⟩
  have e0:ai.len=rows.length:=hA.len
  rw[e0]
  refine .data _ _ (.list sz rows false ai.A ai.cap cs (by rw[←e0];exact hA.cap) (fun h=>by cases h) hA.each hA.addr (fun ad i j row v had hi hj=>?_) (fun i j row v hi hj=>(c1 i j row v hi hj).mono p2.fz))
  have:=(c2 ad i j row v had hi hj).1
  rw[hA1] at had
  obtain rfl:=Option.some.inj had
  show (if b=b then _ else _)=_
  rw[if_pos rfl]
  exact this
theorem zss {o:Oper} {x':X} (h:cOp P o=some (.v (.isnil false x'))):∃ t e x y u,o.op=.binOp .eql t x y u∧P.underlying t=some (.slice e)∧zck y=true∧cX P t x=some x':=by
  obtain⟨dst,op,ty,pos,after,guard⟩:=o
  cases op <;> simp only[cOp,reduceCtorEq,Option.map_eq_some_iff] at h
  case binOp op t x y u =>
    split at h
    ·rename_i x1 y1 hx hy
     split at h
     ·rw[Option.map_eq_some_iff] at h;obtain⟨_,_,h⟩:=h;cases h
     ·rw[Option.map_eq_some_iff] at h;obtain⟨_,_,h⟩:=h;cases h
     ·cases h
     ·cases h
     ·rename_i e ht
      split at h
      ·rename_i hn
       cases h
       exact⟨t,e,x,y,u,rfl,ht,hn,hx⟩
      cases h
     ·split at h <;> cases h
     ·split at h <;> cases h
     ·split at h <;> cases h
     ·cases h
     cases h
    cases h
  case call c =>
    unfold zdq at h
    repeat' split at h
    all_goals cases h
  all_goals first
    | (obtain⟨_,_,h⟩:=h;cases h;done)
    | (repeat' split at h
       all_goals first | (cases h;done) | (rw[Option.map_eq_some_iff] at h;obtain⟨_,_,h⟩:=h;cases h))
theorem zk8 {n:Nat} {c:Code} {a b:SC} (h:zaj P n c=some (.seq a b)):∃ x y,c=.seq x y∧zaj P n x=some a∧zaj P n y=some b:=by
  cases c <;> (try simp only[zaj,reduceCtorEq,Option.some.injEq,Option.map_eq_some_iff,false_and,and_false,exists_false] at h)
  case region id ops d =>
    cases d <;> simp only[zaj] at h
    ·rw[Option.map_eq_some_iff] at h;obtain⟨_,_,h⟩:=h;cases h
    split at h
    ·(repeat' split at h) <;> cases h
    cases h
  case seq x y =>
    split at h
    ·rename_i a' b' h1 h2
     cases h
     exact⟨x,y,rfl,h1,h2⟩
    cases h
  case cond=>split at h <;> cases h
theorem zwf {n:Nat} {c:Code} {l:List SOper} (h:zaj P n c=some (.reg l)):∃ id ops,c=.region id ops false∧zbg P n ops ops.toList=some l:=by
  cases c <;> (try simp only[zaj,reduceCtorEq,Option.some.injEq,Option.map_eq_some_iff,false_and,and_false,exists_false] at h)
  case region id ops d =>
    cases d <;> simp only[zaj] at h
    ·rw[Option.map_eq_some_iff] at h;obtain⟨l',h1,h⟩:=h;cases h;exact⟨id,ops,rfl,h1⟩
    split at h
    ·(repeat' split at h) <;> cases h
    cases h
  case seq x y=>split at h <;> cases h
  case cond=>split at h <;> cases h
theorem comp_inv {fn:Func} {sf:zh} (h:comp P fn=some sf):∃ c,fn.body=some c∧zaj P fn.ntmps c=some sf.code∧zgt P fn.ntmps fn.results.toList=some sf.res∧sf.nargs=fn.params.size+fn.nfree∧fn.params.size+fn.nfree≤fn.ntmps:=by
  unfold comp at h
  split at h
  ·rename_i c hb
   split at h
   ·rename_i c' r' h1 h2
    split at h
    ·rename_i hc
     cases h
     exact⟨c,hb,h1,h2,rfl,hc.1⟩
    cases h
   cases h
  cases h
theorem zqF (hw:WR g S w) {args:List PV} {cs:Array Value} (ha:zcG g args cs) {n:Nat} (hsz:cs.size≤n):zar [] n g.push (ac0 args S) { tmps:=cs++Array.replicate (n - cs.size) undef,defers:=[] } w:=by
  refine⟨⟨zlu hw,fun t=>?_⟩,by simp;omega,rfl,Nat.succ_pos _⟩
  show VR g.push (zht (args.map PV.up) t) ((cs++Array.replicate (n - cs.size) undef).getD t undef)
  unfold zht
  rw[List.getElem?_map,Array.getD_eq_getD_getElem?]
  cases hat:args[t]? with
  | some v =>
    have hlt:=(List.getElem?_eq_some_iff.1 hat).1
    rw[Array.getElem?_append_left (by rw[←ha.1];exact hlt)]
    simp only[Option.map_some,Option.getD_some]
    rw[←Array.getD_eq_getD_getElem?]
    exact (ha.2 t v hat).up (Gh.pop_push g)
  | none =>
    have hge:=List.getElem?_eq_none_iff.1 hat
    rw[Array.getElem?_append_right (by rw[←ha.1];exact hge)]
    simp only[Option.map_none,Option.getD_none]
    rw[Array.getElem?_replicate]
    split <;> exact .undef
end
section
variable [Base] {g g':Gh} {S S':Sto} {w w':World} {P:Program}
def zri (z bytes:Nat) (zero:List PV):SC :=
 .seq (.reg [⟨some 2,none,.nilv z⟩]) (.seq (.seq (.reg [⟨some 3,none,.v (.mov (.t 0))⟩,⟨some 4,none,.v (.isnil false (.t 3))⟩]) (.cond (.t 4) (.seq (.reg [⟨some 2,none,.nilv z⟩]) .ret) .skip))
  (.seq (.reg [⟨some 5,none,.bslice z 0 zero []⟩,⟨some 6,none,.v (.mov (.t 0))⟩,⟨some 7,none,.append z bytes (.t 5) (.t 6)⟩,⟨some 2,none,.v (.mov (.t 7))⟩]) .ret))
noncomputable def ziI (z bytes:Nat):List PV→Option PV
 | [.list z' rows _]=>if z'=z∧rows.length*bytes≤1099511627776∧rows.length≤1099511627776 then some (.list z rows false) else none
 | _=>none
def zlm (z:Nat) (rows:List (List PV)) (full:Bool) (S:Sto):Ac:=⟨upd (zdy 2 (zht [.list z rows full])) 2 (.sl 0 (.slot 2) 0 0 0 0 false),setArr (killS 2 (Fr.e::S)) 0 (.slot 2) ⟨z,[],false,0⟩⟩
def zbB (z:Nat) (rows:List (List PV)) (full:Bool) (S:Sto):Ac:=(zlm z rows full S).put (some 3) (.list z rows full)
def zfE (z bytes:Nat) (zero:List PV):SC:=.seq (.cond (.t 4) (.seq (.reg [⟨some 2,none,.nilv z⟩]) .ret) .skip) (.seq (.reg [⟨some 5,none,.bslice z 0 zero []⟩,⟨some 6,none,.v (.mov (.t 0))⟩,⟨some 7,none,.append z bytes (.t 5) (.t 6)⟩,⟨some 2,none,.v (.mov (.t 7))⟩]) .ret)
theorem zr8 {cl:zi} {z bytes:Nat} {zero:List PV} {rows:List (List PV)} {full:Bool} (hb1:rows.length*bytes≤1099511627776) (hb2:rows.length≤1099511627776) (hby:bytes≤65536):∀ b:Bool,(b=true→rows=[])→∃ acf,evC cl 0 (zfE z bytes zero) ((zbB z rows full S).put (some 4) (.bool b))=.ret acf∧retOf [.t 2] acf=.ok (.arr z rows false) S:=by
 intro b hb
 cases b with
 | true =>
  obtain rfl:=hb rfl
  refine⟨_,by simp only[zfE,evC,zQ,stp,ex,newArr];rfl,?_⟩
  simp only[retOf,rdRes,retL,ret1]
  rfl
 | false =>
  have hbig:bigRow rows.length bytes:=⟨hb1,hb2,hby⟩
  have happ:appendP true 7 z bytes (.nils z) (.list z rows full) (((((zbB z rows full S).put (some 4) (.bool false)).put (some 5) (.nils z)).put (some 6) (.list z rows full)))=newArr true 7 ⟨z,rows,false,0⟩ ((((zbB z rows full S).put (some 4) (.bool false)).put (some 5) (.nils z)).put (some 6) (.list z rows full)):=by
   simp[appendP,srcRows,view,hbig]
  have hops:zQ cl [⟨some 5,none,.bslice z 0 zero []⟩,⟨some 6,none,.v (.mov (.t 0))⟩,⟨some 7,none,.append z bytes (.t 5) (.t 6)⟩,⟨some 2,none,.v (.mov (.t 7))⟩] ((zbB z rows full S).put (some 4) (.bool false))=zmE cl (appendP true 7 z bytes (.nils z) (.list z rows full) (((((zbB z rows full S).put (some 4) (.bool false)).put (some 5) (.nils z)).put (some 6) (.list z rows full)))) [⟨some 2,none,.v (.mov (.t 7))⟩]:=rfl
  rw[happ] at hops
  refine⟨_,by simp only[zfE,evC];rw[show Ac.ev ((zbB z rows full S).put (some 4) (.bool false)) (.t 4)=.bool false from rfl];simp only[hops,Bool.false_eq_true,if_false,newArr,if_true];rfl,?_⟩
  have harr:∀ e:Nat→PV,e 2=.sl 0 (.slot 7) 0 rows.length rows.length 0 false→∀ St:Sto,getArr St 0 (.slot 7)=some ⟨z,rows,false,0⟩→St.tail=S→retOf [.t 2] ⟨e,St⟩=.ok (.arr z rows false) S:=by
   intro e h1 St h2 h3
   simp[retOf,rdRes,retL,ret1,h1,h2,h3]
  exact harr _ rfl _ rfl rfl
theorem zzy {α:Type} {l:List α} (h:l.length=2):∃ a b,l=[a,b]:=by
 match l,h with
 | [a,b],_=>exact⟨a,b,rfl⟩
theorem zrZ (hm:P.follows .mixedOrders=true) {f:Nat} {fn:Func} {nt z bytes:Nat} {zero:List PV} (hf:P.funcs[f]?=some fn) (hc:comp P fn=some ⟨1,nt,zri z bytes zero,[.t 2]⟩) (hby:bytes≤65536):zdk P f (ziI z bytes):=by
 intro args v hx g S w cs hw ha
 have henter:=zoq hf hc cs w
 obtain⟨c,hbody,hcode,hres,hna,hnt⟩:=comp_inv hc
 unfold ziI at hx
 split at hx
 ·rename_i z' rows full
  split at hx
  ·rename_i hcnd
   obtain⟨rfl,hb1,hb2⟩:=hcnd
   obtain rfl:=Option.some.inj hx
   left
   refine⟨henter,?_⟩
   obtain⟨r1,c2,rfl,hr1,hc2⟩:=zk8 hcode
   obtain⟨c3,rest,rfl,hc3,hrest⟩:=zk8 hc2
   obtain⟨r2,cnd_,rfl,hr2,hcd⟩:=zk8 hc3
   obtain⟨i2,ops,rfl,hops⟩:=zwf hr2
   obtain⟨hol,hog⟩:=zfn ops.toList _ hops
   have hlen:ops.toList.length=2:=by rw[←hol];rfl
   obtain⟨o1,o2,hopl⟩:=zzy hlen
   skip
   have ho1:zgf P fn.ntmps ops o1=some ⟨some 3,none,.v (.mov (.t 0))⟩:=by
    obtain⟨so,h1,h2⟩:=hog 0 o1 (by rw[hopl];rfl)
    simp at h1
    rw[h1];exact h2
   have ho2:zgf P fn.ntmps ops o2=some ⟨some 4,none,.v (.isnil false (.t 3))⟩:=by
    obtain⟨so,h1,h2⟩:=hog 1 o2 (by rw[hopl];rfl)
    simp at h1
    rw[h1];exact h2
   let cl:zi:=fun _ _ _=>.bad
   have hcl:zak P cl:=fun f args S h=>absurd rfl h
   have e1:evC cl 0 (.reg [⟨some 2,none,.nilv z'⟩]) (ac0 [.list z' rows full] S)=.nor (zlm z' rows full S):=by
    simp only[evC]
    rfl
   have e2:stp cl true ⟨some 3,none,.v (.mov (.t 0))⟩ (zlm z' rows full S)=.ok (zbB z' rows full S):=rfl
   have hfin:=zr8 (cl:=cl) (z:=z') (zero:=zero) (full:=full) (S:=S) hb1 hb2 hby
   have hsz:cs.size≤fn.ntmps:=by
    rw[←ha.1]
    have:(1:Nat)=fn.params.size+fn.nfree:=hna
    show 1≤fn.ntmps
    omega
   have hr0:=zqF hw ha hsz
   refine calls_of_wp hf hbody (wp_seq (zgF hcl hm r1 _ hr1 0 hr0 ?_))
   rw[e1]
   intro a1 w1 g1 h1 t1 l1
   show (Code.seq (Code.seq (Code.region i2 ops false) cnd_) rest).wp P _ a1 w1
   refine wp_seq (wp_seq (wp_region_list ?_))
   rw[hopl]
   refine wpList_step fun K hK=>?_
   have s1:=ziz hcl ho1 (kd:=true) h1 (fun h=>by cases h)
   rw[e2] at s1
   obtain⟨_,hd1,hdn1,_⟩:=zc2 ho1
   show zer P ops o1 a1 w1 K _
   refine s1 K _ (fun c0 w2 g2 hst=>hK _ _ ?_)
   skip
   have h2:=hst.relA h1 hdn1
   obtain⟨hop2,hdst2,hdn2,hgd⟩:=zc2 ho2
   have hg0:o2.guard=none:=by
    rcases hgd with⟨h,_⟩ | ⟨_,_,_,_,_,h⟩
    ·exact h
    cases h
   refine wpList_plain hg0 fun K2 hK2=>?_
   obtain⟨t,e,x,y,u,ho,ht,hn,hx⟩:=zss hop2
   have hy:=zjt hn
   subst hy
   have hev:=h2.rel.ev hx
   have hv3:(zbB z' rows full S).ev (.t 3)=.list z' rows full:=rfl
   rw[hv3] at hev
   cases hev with | data _ _ hfr =>
   generalize hcc:(a1.put o1.dst c0).eval x=cc at hfr
   cases hfr with | list _ _ _ A cap cs' hl hfl hss hA hcs hvs =>
   have hrun:(execOp (a1.put o1.dst c0).eval o2).run P w2=.ok (.value (.bool A.isNone)) w2:=by
    have:=zpI ht .eql false (.inl ⟨rfl,rfl⟩) x (.const (.slice none 0 0)) A rows.length cap w2
    unfold execOp
    rw[ho]
    show (do pure (Next.value (← (do eqGuard .eql t x (.const (.slice none 0 0)) ((a1.put o1.dst c0).eval x) ((a1.put o1.dst c0).eval (.const (.slice none 0 0)));binOp .eql t ((a1.put o1.dst c0).eval x) ((a1.put o1.dst c0).eval (.const (.slice none 0 0))):Sem Value))):Sem Next).run P w2=_
    rw[hcc]
    exact zie this
   unfold Oper.wp
   rw[hrun]
   apply hK2
   obtain⟨acf,f1,f2⟩:=hfin A.isNone (fun hnn=>by
    apply Classical.byContradiction
    intro hne
    obtain⟨ad,rfl,_⟩:=hA hne
    cases hnn)
   have h3:=(zbT (d:=o2.dst) (kd:=true) (ac:=zbB z' rows full S) (S':=(zbB z' rows full S).S) (w':=w2) (w:=w2) (g:=g2) (g':=g2) (v:=.bool A.isNone) (c:=.bool A.isNone) h2.rel.wr (Ext.refl g2) (Tr.refl g2 w2) (.data _ _ (.bool _)) rfl).relA h2 hdn2
   rw[←hdst2] at h3
   show cnd_.wp P _ _ w2
   rw[←hdst2]
   refine zgF hcl hm cnd_ _ hcd 0 h3 (ztC hcl hm hrest rfl ?_)
   have f1':evC cl 0 (zfE z' bytes zero) (({ zbB z' rows full S with S:=(zbB z' rows full S).S }:Ac).put (some 4) (.bool A.isNone))=.ret acf:=f1
   show EPost _ _ _ _ _ _ (evC cl 0 (zfE z' bytes zero) _)
   rw[f1']
   intro a4 w4 g4 h4 t4 l4
   have hb4:retOf [.t 2] acf≠.bad:=by rw[f2];exact fun h=>by cases h
   obtain⟨v,q1,q2⟩:=zet (g:=g) (S:=S) (w:=w) hres h4 ((t1.trans hst.tr).trans t4) (by rw[l4];rfl) hb4
   rw[f2] at q2
   exact⟨h4.defers,v,q1,zoC q2⟩
  cases hx
 cases hx
end
section
variable [Base] {g g':Gh} {S S':Sto} {w w':World} {P:Program} {D:List Deferred}
def zd5 (t:Nat) (r:OO):Prop:=∀ ac,r=.ok ac→ac.e t=.ptr 0 t 0
theorem zbC {t:Nat} {d:Option Nat} {v:PV} {e:Nat→PV} (hd:d≠some t) (h:e t=.ptr 0 t 0) (S:Sto):zd5 t (.ok (({ e:=e,S:=S }:Ac).put d v)):=by
 intro ac hac
 cases hac
 cases d with
 | none=>exact h
 | some d =>
  have:t≠d:=fun e=>hd (by rw[e])
  simp only[Ac.put,upd,if_neg this]
  exact h
theorem zid {t d:Nat} {v:PV} {e:Nat→PV} {S:Sto} (hd:(some d:Option Nat)≠some t) (h:e t=.ptr 0 t 0):zd5 t (.ok ⟨upd (zdy d e) d v,S⟩):=by
 intro ac hac
 cases hac
 have:t≠d:=fun e=>hd (by rw[e])
 simp[upd,zdy,h,PV.kill,this]
theorem zlE {t d:Nat} {v:PV} {e:Nat→PV} {S:Sto} (hd:(some d:Option Nat)≠some t) (h:e t=.ptr 0 t 0):zd5 t (.ok ⟨upd e d v,S⟩):=by
 intro ac hac
 cases hac
 have:t≠d:=fun e=>hd (by rw[e])
 simp[upd,h,this]
theorem zkV {t:Nat} {e:Nat→PV} {S:Sto} (h:e t=.ptr 0 t 0):zd5 t (.ok ⟨e,S⟩):=by
 intro ac hac
 cases hac
 exact h
theorem zai (t:Nat):zd5 t .bad:=fun ac h=>by cases h
theorem zlD (t:Nat) (v:PV) (S:Sto):zd5 t (.pan v S):=fun ac h=>by cases h
theorem zfU {kd:Bool} {t d:Nat} {A:Arr} {ac:Ac} (hd:(some d:Option Nat)≠some t) (h:ac.e t=.ptr 0 t 0):zd5 t (newArr kd d A ac):=by
 unfold newArr
 split
 ·exact zid hd h
 split
 ·exact zlE hd h
 exact zai t
theorem znG {kd:Bool} {t d sz bytes:Nat} {x y:PV} {ac:Ac} (hd:(some d:Option Nat)≠some t) (h:ac.e t=.ptr 0 t 0):zd5 t (appendP kd d sz bytes x y ac):=by
 unfold appendP
 repeat' split
 all_goals first | exact zai t | exact zfU hd h | exact zlE hd h
theorem zqU {cl:zi} {kd:Bool} {t:Nat} {d:Option Nat} {f:PV} {args:List PV} {ac:Ac} (hd:d≠some t) (h:ac.e t=.ptr 0 t 0):zd5 t (callP cl kd d f args ac):=by
 unfold callP
 split
 ·split
  ·split
   ·rename_i r S' _
    dsimp only
    cases r with
    | v x=>exact zbC hd h _
    | arr sz rows frz =>
     dsimp only
     cases d with
     | none=>exact zkV h
     | some d =>
      dsimp only
      split
      ·exact zfU hd h
      exact zbC hd h _
   ·exact zlD _ _ _
   exact zai t
  exact zai t
 exact zai t
theorem zm6 {cl:zi} {kd:Bool} {t:Nat} {d:Option Nat} {op:SOp} {ac:Ac} (hd:d≠some t) (h:ac.e t=.ptr 0 t 0):zd5 t (ex cl kd d op ac):=by
 unfold ex
 split
 ·split
  ·exact zbC hd h _
  exact zai t
 ·split
  ·exact zfU hd h
  exact zai t
 ·split
  ·split
   ·exact zid hd h
   split
   ·exact zbC hd h _
   exact zai t
  exact zai t
 ·split
  ·split
   ·exact zid hd h
   exact zai t
  exact zai t
 ·split
  ·exact zbC hd h _
  split
  ·exact zbC hd h _
  exact zai t
 ·split
  ·exact zkV h
  exact zai t
 ·split
  ·exact znG hd h
  exact zai t
 ·exact zqU hd h
 ·split
  ·exact zlD _ _ _
  exact zai t
 split
 ·exact zbC hd h _
 exact zai t
theorem zsw {cl:zi} {kd:Bool} {t:Nat} {o:SOper} {ac:Ac} (hd:o.dst≠some t) (h:ac.e t=.ptr 0 t 0):zd5 t (stp cl kd o ac):=by
 unfold stp
 split
 ·exact zm6 hd h
 split
 ·split
  ·exact zm6 hd h
  exact zbC hd h _
 ·exact zbC hd h _
 exact zai t
def EPostP (D:List Deferred) (n:Nat) (g:Gh) (l:Nat) (w:World) (Q:Exit→Act→World→Prop) (t:Nat) (c0:Value):EO→Prop
 | .nor ac'=>∀ a' w' g',zar D n g' ac' a' w'→Tr g w g' w'→ac'.S.length=l→Q .normal a' w'
 | .pan v S=>∀ a' w' g' c,WR g' S w'→VR g' v c→VR g' (.ptr 0 t 0) c0→Tr g w g' w'→S.length=l→a'.defers=D→a'.tmps.size=n→a'.eval (.tmp t)=c0→Q (.panic [{ v:=c,recovered:=false }]) a' w'
 | _=>False
theorem EPostP.from {n l t:Nat} {c0:Value} {g1:Gh} {w1:World} {Q:Exit→Act→World→Prop} {r:EO} (h:EPostP D n g l w Q t c0 r) (ht:Tr g w g1 w1):EPostP D n g1 l w1 Q t c0 r:=by
 cases r with
 | nor ac=>exact fun a' w' g' h1 h2 h3=>h a' w' g' h1 (ht.trans h2) h3
 | pan v S=>exact fun a' w' g' c h1 h2 h3 h4 h5 h6 h7 h8=>h a' w' g' c h1 h2 h3 (ht.trans h4) h5 h6 h7 h8
 | _=>exact h
theorem zl6 {cl:zi} (hcl:zak P cl) {n t:Nat} {ops:Array Oper} {Q:Exit→Act→World→Prop} {c0:Value}:∀ (ol:List Oper) (l:List SOper),zbg P n ops ol=some l→(∀ o ∈ l,o.dst≠some t)→∀ {g:Gh} {ac:Ac} {a:Act} {w:World},zar D n g ac a w→ac.e t=.ptr 0 t 0→a.eval (.tmp t)=c0→EPostP D n g ac.S.length w Q t c0 (zQ cl l ac)→wpList P ops Q ol a w
 | [],l,hc,hd,g,ac,a,w,hr,he,h0,hp=>by
  simp only[zbg,Option.some.injEq] at hc
  subst hc
  exact hp a w g hr (Tr.refl g w) rfl
 | o::ol,l,hc,hd,g,ac,a,w,hr,he,h0,hp=>by
  simp only[zbg] at hc
  split at hc
  ·rename_i so sl ho hl
   obtain rfl:=Option.some.inj hc
   have hs:=ziz hcl ho (kd:=true) hr (fun h=>by cases h)
   obtain⟨_,hdo,hdn,_⟩:=zc2 ho
   have hdt:so.dst≠some t:=hd so (List.mem_cons_self ..)
   refine wpList_step fun K hK=>?_
   simp only[zQ] at hp
   cases hst:stp cl true so ac with
   | ok ac' =>
    have hk:ac'.e t=.ptr 0 t 0:=zsw hdt he ac' hst
    rw[hst] at hs hp
    have:=hs K Q (fun c w' g' hstep=>hK _ _ (zl6 hcl ol sl hl (fun o h=>hd o (List.mem_cons_of_mem _ h)) (hstep.relA hr hdn) hk ((zeB (by rw[←hdo];exact hdt)).trans h0) (by rw[hstep.len];exact hp.from hstep.tr)))
    unfold zer at this
    exact this
   | pan v S =>
    rw[hst] at hs hp
    have hv:VR g (.ptr 0 t 0) c0:=by
     have:=hr.rel.env t
     rw[he,h0] at this
     exact this
    have:=hs K Q (fun c w' g' h1 h2 hx h3 h4=>hp a w' g' c h1 h2 (hv.mono hx) h3 h4 hr.defers hr.size h0)
    unfold zer at this
    exact this
   | bad=>rw[hst] at hp;exact hp.elim
  cases hc
def zqJ:List (Code × SC)→Code→Code
 | [],R=>R
 | p::l,R=>p.1.seq (zqJ l R)
def zla:List (Code × SC)→SC
 | []=>.skip
 | p::l=>.seq p.2 (zla l)
theorem EPost.out {n l:Nat} {Q:Exit→Act→World→Prop} {T:Act→World→Prop} {r:EO} (hn:∀ ac',r≠.nor ac') (h:EPost D n g l w (Exit.then T Q) r):EPost D n g l w Q r:=by
 cases r with
 | nor ac=>exact absurd rfl (hn ac)
 | ext id ac=>exact h
 | ret ac=>exact h
 | pan v S=>exact h
 | bad=>exact h
theorem zr9 {cl:zi} (hcl:zak P cl) (hm:P.follows .mixedOrders=true) {n:Nat} {R:Code} {Q:Exit→Act→World→Prop} (N:Nat):∀ (l:List (Code × SC)),(∀ p ∈ l,zaj P n p.1=some p.2)→∀ {g:Gh} {ac:Ac} {a:Act} {w:World},zar D n g ac a w→EPost D n g ac.S.length w (Exit.then (R.wp P Q) Q) (evC cl N (zla l) ac)→(zqJ l R).wp P Q a w
 | [],_,g,ac,a,w,hr,hp=>by
  simp only[zla,evC] at hp
  exact hp a w g hr (Tr.refl g w) rfl
 | p::l,hl,g,ac,a,w,hr,hp=>by
  simp only[zla,evC] at hp
  refine wp_seq (zgF hcl hm p.1 p.2 (hl p (List.mem_cons_self ..)) N hr (EPost.behind (fun e=>by rw[e] at hp;exact hp) (fun hn=>?_) fun ac' he a' w' g' h1 h2 h3=>?_))
  ·cases he:evC cl N p.2 ac with
   | nor ac'=>exact absurd he (hn ac')
   | ext id ac'=>rw[he] at hp;exact hp
   | ret ac'=>rw[he] at hp;exact hp
   | pan v S=>rw[he] at hp;exact hp
   | bad=>rw[he] at hp;exact hp
  rw[he] at hp
  exact zr9 hcl hm N l (fun q hq=>hl q (List.mem_cons_of_mem _ hq)) h1 (by rw[h3];exact hp.from h2)
structure RecParts (P:Program) (f fk:Nat) (fn:Func) (r:zcS) (l:List (Code × SC)) (i4 i5:Nat) (o1 o2:Oper) (ops:Array Oper) (cz:Code) (ty:Nat):Prop where
 func:P.funcs[f]?=some fn
 name:fn.name ≠ "runtime.NumGoroutine"
 body:fn.body=some (zqJ l ((Code.region i4 #[o1,o2] false).seq ((Code.region i5 ops false).seq cz)))
 mk_:o1.op=.makeFunc (.func fk) #[] #[.tmp r.t0]
 mkd:o1.dst=some r.d
 mkg:o1.guard=none
 df:∃ ts,o2.op=.defer ⟨.value (.tmp r.d),#[],ts⟩
 dfd:o2.dst=none
 dfg:o2.guard=none
 pre:r.pre=zla l
 cpre:∀ p ∈ l,zaj P fn.ntmps p.1=some p.2
 cops:zbg P fn.ntmps ops ops.toList=some r.ops
 cpost:zaj P fn.ntmps cz=some r.post
 cres:zgt P fn.ntmps fn.results.toList=some r.res
 nargs:r.nargs≤fn.ntmps
 dn:r.d < fn.ntmps
 tn:r.d≠r.t0
 dst:∀ o ∈ r.ops,o.dst≠some r.t0
 kty:∃ k,kOf P ty=some k∧k.getD 1=1
 enter:∀ (v:Value) (w:World),(callFunc fk #[v]).run P w=.ok (.enter fk #[v]) w
 idle:∀ (v:Value) (w:World),CallsD P fk #[v] .returning w fun e u' w'=>(∃ v,e=.returned v)∧u'=.returning∧w'=w
 takes:∀ (v:Value) (k:IntKind) (m:Int) (w w':World),(Instr.storeAt ty v (.int k m)).run P w=.ok () w' →
  CallsD P fk #[v] (.panicking [{ v:=.iface r.T (.int k m),recovered:=false }]) w fun e u' w''=>(∃ v,e=.returned v)∧u'=.panicking [{ v:=.iface r.T (.int k m),recovered:=true }]∧w''=w'
theorem int_inv {k:IntKind} {m:Int} {c:Value} (h:VR g (.int k m) c):c=.int k m:=by
 cases h with
 | data _ _ h=>cases h;rfl
theorem zrq {t:Nat} {k:IntKind} {m:Int} {c:Value} (h:VR g (.iface t (.int k m)) c):c=.iface t (.int k m):=by
 cases h with
 | data _ _ h=>cases h with | iface _ _ _ h=>cases h;rfl
 | iface _ _ c h=>rw[int_inv h]
theorem zrg {n:Nat} {args:List PV} {cs:Array Value} (hw:WR g S w) (ha:zcG g args cs) (hsz:cs.size≤n):zar [] n g.push (ac0 args S) { tmps:=cs++Array.replicate (n - cs.size) undef,defers:=[] } w:=by
 refine⟨⟨zlu hw,fun t=>?_⟩,by simp;omega,rfl,Nat.succ_pos _⟩
 show VR g.push (zht (args.map PV.up) t) ((cs++Array.replicate (n - cs.size) undef).getD t undef)
 unfold zht
 rw[List.getElem?_map,Array.getD_eq_getD_getElem?]
 cases hat:args[t]? with
 | some v =>
  have hlt:=(List.getElem?_eq_some_iff.1 hat).1
  rw[Array.getElem?_append_left (by rw[←ha.1];exact hlt)]
  simp only[Option.map_some,Option.getD_some]
  rw[←Array.getD_eq_getD_getElem?]
  exact (ha.2 t v hat).up (Gh.pop_push g)
 | none =>
  have hge:=List.getElem?_eq_none_iff.1 hat
  rw[Array.getElem?_append_right (by rw[←ha.1];exact hge)]
  simp only[Option.map_none,Option.getD_none]
  rw[Array.getElem?_replicate]
  split <;> exact .undef
section
variable {f fk:Nat} {fn:Func} {r:zcS} {l:List (Code × SC)} {i4 i5:Nat} {o1 o2:Oper} {ops:Array Oper} {cz:Code} {ty:Nat}
theorem RecParts.inv (R:RecParts P f fk fn r l i4 i5 o1 o2 ops cz ty) (v:Value) (w:World):(invoke (.fn (.func fk) #[v]) #[]).run P w=.ok (.enter fk #[v]) w:=by
 have:=R.enter v w
 simpa [invoke] using this
theorem RecParts.behind (R:RecParts P f fk fn r l i4 i5 o1 o2 ops cz ty) {cl:zi} (hcl:zak P cl) (hm:P.follows .mixedOrders=true) (N:Nat) {gi:Gh} {ac:Ac} {a:Act} {w':World} {v:Value} (hr:zar [{ target:=.fn (.func fk) #[v],args:=#[] }] fn.ntmps gi ac a w') (ht:Tr g.push w gi w') (hl:ac.S.length=S.length+1) (hb:zgC r.res (evC cl N r.post ac)≠.bad) :
  cz.wp P (bodyPostD P fn (zap g S w (zgC r.res (evC cl N r.post ac)))) a w':=by
 have fin:∀ ac6 a6 w6 g6,zar [{ target:=.fn (.func fk) #[v],args:=#[] }] fn.ntmps g6 ac6 a6 w6→Tr gi w' g6 w6→ac6.S.length=ac.S.length→retOf r.res ac6≠.bad→Leaves P fn a6.tmps (zap g S w (retOf r.res ac6)) a6.defers .returning w6:=by
  intro ac6 a6 w6 g6 k1 k2 k3 hb6
  obtain⟨u,q1,q2⟩:=zet R.cres k1 (ht.trans k2) (k3.trans hl) hb6
  rw[k1.defers]
  refine leaves_cons (f:=fk) (args:=#[v]) (by simp) (R.inv v w6) ((R.idle v w6).mono ?_)
  rintro e u' w'' ⟨⟨v',rfl⟩,rfl,rfl⟩
  exact⟨u,q1,q2⟩
 refine zgF hcl hm cz r.post R.cpost N hr ?_
 cases he:evC cl N r.post ac with
 | nor ac6=>rw[he] at hb;exact fun a6 w6 g6 k1 k2 k3=>fin ac6 a6 w6 g6 k1 k2 k3 hb
 | ret ac6=>rw[he] at hb;exact fun a6 w6 g6 k1 k2 k3=>fin ac6 a6 w6 g6 k1 k2 k3 hb
 | ext i ac=>rw[he] at hb;exact absurd rfl hb
 | pan v S=>rw[he] at hb;exact absurd rfl hb
 | bad=>rw[he] at hb;exact absurd rfl hb
theorem zza (R:RecParts P f fk fn r l i4 i5 o1 o2 ops cz ty):zqq P f r:=by
 intro cl N hcl hm args S hla hb g w cs hw ha
 left
 refine⟨by unfold callFunc;simp[R.func,R.name,R.body],calls_of_wp_defers R.func R.body ?_⟩
 have hsz:cs.size≤fn.ntmps:=by rw[←ha.1,hla];exact R.nargs
 rw[R.pre] at hb ⊢
 refine zr9 hcl hm N l R.cpre (zrg hw ha hsz) ?_
 cases he:evC cl N (zla l) (ac0 args S) with
 | bad=>rw[he] at hb;exact absurd rfl hb
 | pan v S=>rw[he] at hb;exact absurd rfl hb
 | ext i ac=>rw[he] at hb;exact absurd rfl hb
 | ret ac =>
  rw[he] at hb
  intro a' w' g' h1 h2 h3
  obtain⟨v,q1,q2⟩:=zet R.cres h1 h2 h3 hb
  show Leaves P fn a'.tmps _ a'.defers .returning w'
  rw[h1.defers]
  exact⟨v,q1,q2⟩
 | nor ac =>
  rw[he] at hb
  intro a' w' g' h1 h2 h3
  obtain⟨ts,hdf⟩:=R.df
  refine wp_seq (wp_region_list ?_)
  refine wpList_step fun K hK=>?_
  rw[if_pos (by simp[Region.wanted,R.mkg])]
  have e1:(execOp a'.eval o1).run P w'=.ok (.value (.func (.func fk) #[] #[a'.eval (.tmp r.t0)])) w':=by
   unfold execOp
   rw[R.mk_]
   simp[Instr.makeFunc]
  unfold Oper.wp
  rw[e1]
  refine hK _ _ (wpList_step fun K hK=>?_)
  rw[if_pos (by simp[Region.wanted,R.dfg])]
  have hd4:(a'.put o1.dst (.func (.func fk) #[] #[a'.eval (.tmp r.t0)])).eval (.tmp r.d)=.func (.func fk) #[] #[a'.eval (.tmp r.t0)]:=by
   rw[R.mkd]
   exact zhU (by rw[h1.size];exact R.dn)
  have e2:(execOp (a'.put o1.dst (.func (.func fk) #[] #[a'.eval (.tmp r.t0)])).eval o2).run P w'=.ok (.defer { target:=.fn (.func fk) #[a'.eval (.tmp r.t0)],args:=#[] }) w':=by
   unfold execOp
   rw[hdf]
   simp[resolve,hd4,Deferred.ofValue]
  unfold Oper.wp
  rw[e2]
  refine hK _ _ ?_
  rw[R.mkd,R.dfd]
  have hr5:zar [{ target:=.fn (.func fk) #[a'.eval (.tmp r.t0)],args:=#[] }] fn.ntmps g' (ac.put (some r.d) .junk) (({ a'.put (some r.d) (.func (.func fk) #[] #[a'.eval (.tmp r.t0)]) with defers:={ target:=.fn (.func fk) #[a'.eval (.tmp r.t0)],args:=#[] }::(a'.put (some r.d) (.func (.func fk) #[] #[a'.eval (.tmp r.t0)])).defers }:Act).put none undef) w':=by
   refine⟨⟨h1.rel.wr,fun t=>?_⟩,?_,?_,h1.ne⟩
   ·show VR g' ((ac.put (some r.d) .junk).e t) ((a'.put (some r.d) (.func (.func fk) #[] #[a'.eval (.tmp r.t0)])).eval (.tmp t))
    by_cases e:t=r.d
    ·subst e
     simp only[Ac.put,upd,if_true]
     exact .junk _
    rw[zeB (fun h=>e (Option.some.inj h).symm)]
    simp only[Ac.put,upd,if_neg e]
    exact h1.rel.env t
   ·show (a'.put (some r.d) (.func (.func fk) #[] #[a'.eval (.tmp r.t0)])).tmps.size=_
    rw[Act.put_size]
    exact h1.size
   show _::(a'.put (some r.d) (.func (.func fk) #[] #[a'.eval (.tmp r.t0)])).defers=_
   rw[Act.put_defers_,h1.defers]
  have hl5:(ac.put (some r.d) .junk).S.length=S.length+1:=h3
  have hev:(({ a'.put (some r.d) (.func (.func fk) #[] #[a'.eval (.tmp r.t0)]) with defers:={ target:=.fn (.func fk) #[a'.eval (.tmp r.t0)],args:=#[] }::(a'.put (some r.d) (.func (.func fk) #[] #[a'.eval (.tmp r.t0)])).defers }:Act).put none undef).eval (.tmp r.t0)=a'.eval (.tmp r.t0):=by
   show (a'.put (some r.d) (.func (.func fk) #[] #[a'.eval (.tmp r.t0)])).eval (.tmp r.t0)=_
   exact zeB (fun h=>R.tn (Option.some.inj h))
  refine wp_seq (wp_region_list ?_)
  by_cases h0:ac.e r.t0=.ptr 0 r.t0 0
  ·refine zl6 hcl ops.toList r.ops R.cops R.dst hr5 (by
    have:r.t0≠r.d:=fun e=>R.tn e.symm
    simp only[Ac.put,upd,if_neg this]
    exact h0) hev ?_
   simp only[zdH] at hb ⊢
   cases ho:zQ cl r.ops (ac.put (some r.d) .junk) with
   | bad=>rw[ho] at hb;exact absurd rfl hb
   | ext i ac=>rw[ho] at hb;exact absurd rfl hb
   | ret ac=>rw[ho] at hb;exact absurd rfl hb
   | nor ac5 =>
    rw[ho] at hb
    exact fun a5 w5 g5 k1 k2 k3=>R.behind hcl hm N k1 (h2.trans k2) (k3.trans hl5) hb
   | pan v S5 =>
    rw[ho] at hb
    intro a6 w6 g6 c k1 k2 k3 k4 k5 k6 k7 k8
    show Leaves P fn a6.tmps (zap g S w (ziD r (ac.e r.t0=.ptr 0 r.t0 0) v S5)) a6.defers (.panicking [{ v:=c,recovered:=false }]) w6
    have hb':ziD r (ac.e r.t0=.ptr 0 r.t0 0) v S5≠.bad:=hb
    unfold ziD at hb' ⊢
    split at hb'
    ·rename_i t k m
     by_cases ht:ac.e r.t0=.ptr 0 r.t0 0∧t=r.T
     ·rw[if_pos ht] at hb' ⊢
      obtain⟨_,rfl⟩:=ht
      cases hst:storeP S5 1 (.ptr 0 r.t0 0) (.int k m) with
      | none=>rw[hst] at hb';exact absurd rfl hb'
      | some S7 =>
       rw[hst] at hb'
       dsimp only at hb' ⊢
       obtain⟨kk,hk1,hk2⟩:=R.kty
       obtain⟨w7,g7,hrun,w7r,x7,t7,l7⟩:=zop k1 hk1 k3 (VR.data _ _ (FR.int k m)) (by rw[hk2];exact hst)
       rw[zrq k2,k6]
       refine leaves_cons (f:=fk) (args:=#[a'.eval (.tmp r.t0)]) (by simp) (R.inv _ w6) ((R.takes _ k m w6 w7 hrun).mono ?_)
       rintro e u' w'' ⟨⟨v',rfl⟩,rfl,rfl⟩
       have hrel:zar a6.defers fn.ntmps g7 ⟨upd (fun _=>.junk) r.t0 (.ptr 0 r.t0 0),S7⟩ a6 w'':=by
        refine⟨⟨w7r,fun t=>?_⟩,k7,rfl,by show 0 < S7.length;omega⟩
        by_cases e:t=r.t0
        ·have h7:VR g7 (.ptr 0 r.t0 0) (a6.eval (.tmp r.t0)):=by rw[k8];exact k3.mono x7
         simp only[upd,e,if_true]
         exact h7
        simp only[upd,if_neg e]
        exact .junk _
       obtain⟨u,q1,q2⟩:=zet (S:=S) R.cres hrel (h2.trans (k4.trans t7)) (by show S7.length=_;omega) hb'
       exact⟨u,q1,q2⟩
     rw[if_neg ht] at hb';exact absurd rfl hb'
    exact absurd rfl hb'
  refine zj7 hcl ops.toList r.ops R.cops hr5 ?_
  simp only[zdH] at hb ⊢
  cases ho:zQ cl r.ops (ac.put (some r.d) .junk) with
  | bad=>rw[ho] at hb;exact absurd rfl hb
  | ext i ac=>rw[ho] at hb;exact absurd rfl hb
  | ret ac=>rw[ho] at hb;exact absurd rfl hb
  | nor ac5 =>
   rw[ho] at hb
   exact fun a5 w5 g5 k1 k2 k3=>R.behind hcl hm N k1 (h2.trans k2) (k3.trans hl5) hb
  | pan v S5 =>
   rw[ho] at hb
   have hb':ziD r (ac.e r.t0=.ptr 0 r.t0 0) v S5≠.bad:=hb
   unfold ziD at hb'
   split at hb'
   ·rw[if_neg (fun h=>h0 h.1)] at hb';exact absurd rfl hb'
   exact absurd rfl hb'
end
end
end Go.Proofs.YtfbcnpbhhooapaaGreatDoor.M
namespace Go.Proofs.YtfbcnpbhhooapaaGreatDoor.M
open Go Classical
inductive V where
 | mk (k n:Int) (s:List UInt8) (l:List V)
def V.k:V→Int | .mk k _ _ _=>k
def V.n:V→Int | .mk _ n _ _=>n
def V.s:V→List UInt8 | .mk _ _ s _=>s
def V.l:V→List V | .mk _ _ _ l=>l
mutual
def enc:V→List PV
 | .mk k n s l=>[.int .i64 k,.int .i64 n,.str s,.list 4 (zaW l) false]
def zaW:List V→List (List PV)
 | []=>[]
 | v::vs=>enc v::zaW vs
end
mutual
def deep:V→Nat
 | .mk k _ _ l=>if k=4 then 1+zvv l else 0
def zvv:List V→Nat
 | []=>0
 | v::vs=>max (deep v) (zvv vs)
end
theorem zgy:∀ vs:List V,(zaW vs).length=vs.length
 | []=>by simp[zaW]
 | v::vs=>by simp[zaW,zgy vs]
theorem zmX:∀ (vs:List V) (i:Nat),(zaW vs)[i]?=(vs[i]?).map enc
 | [],i=>by simp[zaW]
 | v::vs,0=>by simp[zaW]
 | v::vs,i+1=>by simp[zaW,zmX vs i]
theorem zzg (v:V):enc v=[.int .i64 v.k,.int .i64 v.n,.str v.s,.list 4 (zaW v.l) false]:=by cases v;simp[enc,V.k,V.n,V.s,V.l]
def I64 (x:Int):Prop:=-9223372036854775808≤x∧x≤9223372036854775807
theorem I64.wrap {x:Int} (h:I64 x):IntKind.i64.wrap x=x:=zhf h.1 h.2
def U8 (x:Int):Prop:=0≤x∧x≤255
theorem U8.wrap {x:Int} (h:U8 x):IntKind.u8.wrap x=x:=by
 obtain⟨h1,h2⟩:=h
 simp only[IntKind.wrap,IntKind.min,IntKind.max,IntKind.signed,IntKind.bits]
 simp
 omega
def U64 (x:Int):Prop:=0≤x∧x≤18446744073709551615
theorem U64.wrap {x:Int} (h:U64 x):IntKind.u64.wrap x=x:=by
 obtain⟨h1,h2⟩:=h
 simp only[IntKind.wrap,IntKind.min,IntKind.max,IntKind.signed,IntKind.bits]
 simp
 omega
def eI (x:Int):List PV:=[.int .i64 x]
def eK (k:IntKind) (x:Int):List PV:=[.int k x]
def eB (x:UInt8):List PV:=[.int .u8 (x.toNat:Nat)]
def eS (x:List UInt8):List PV:=[.str x]
def eO (x:Bool):List PV:=[.bool x]
def eF (x:Nat):List PV:=[.func x []]
def eLB (x:List UInt8):List PV:=[.list 1 (x.map eB) false]
def eLS (x:List (List UInt8)):List PV:=[.list 1 (x.map eS) false]
theorem zhH:∀ xs:List V,zaW xs=xs.map enc
 | []=>by simp[zaW]
 | x::xs=>by simp[zaW,zhH xs]
theorem zob:zaW []=[]:=by simp[zaW]
theorem zmd (x:V) (xs:List V):zaW (x::xs)=enc x::zaW xs:=by simp[zaW]
theorem znr (xs ys:List V):zaW (xs++ys)=zaW xs++zaW ys:=by simp[zhH]
theorem zrt (xs:List V) (n:Nat):(zaW xs).drop n=zaW (xs.drop n):=by simp[zhH]
theorem zq4 (xs:List V) (n:Nat):(zaW xs).take n=zaW (xs.take n):=by simp[zhH]
theorem zrh {α β:Type} (f:α→β) (xs:List α) (n:Nat):(xs.map f).drop n=(xs.drop n).map f:=by simp
theorem zsE {α β:Type} (f:α→β) (xs:List α) (n:Nat):(xs.map f).take n=(xs.take n).map f:=by simp
theorem zts {α:Type} (xs:List α):xs.take xs.length=xs:=List.take_length
theorem znB {α:Type} (xs ys:List α) (n:Nat):(xs++ys).take (xs.length+n)=xs++ys.take n:=by rw[List.take_append,List.take_of_length_le (by omega)];congr 2;omega
theorem zmr (xs:List V) (ys:List (List PV)) (n:Nat):(zaW xs++ys).take (xs.length+n)=zaW xs++ys.take n:=by
 have:=znB (zaW xs) ys n
 rwa [zgy] at this
theorem zm9 {α:Type} (f:α→List PV) (xs:List α) (ys:List (List PV)) (n:Nat):(xs.map f++ys).take (xs.length+n)=xs.map f++ys.take n:=by
 have:=znB (xs.map f) ys n
 rwa [List.length_map] at this
theorem zkx:∀ xs:List UInt8,bytesOf (xs.map eB)=some xs
 | []=>rfl
 | x::xs=>by
  have h:UInt8.ofNat ((x.toNat:Nat):Int).toNat=x:=by simp
  simp only[List.map_cons,eB,bytesOf,zkx xs,Option.map_some,h]
theorem zvc (s:List UInt8):(s.map fun b=>([PV.int .u8 b.toNat]:List PV))=s.map eB:=rfl
theorem zwE {SP:Prg} {a b:SC} {ac:Ac} {p q:Bool}:cnd SP (.bool (p && q)) a b ac=if p=true∧q=true then E SP a ac else E SP b ac:=by cases p <;> cases q <;> rfl
noncomputable def stO (ac:Ac) (r:Option Sto):OO :=
 match r with
 | some S=>.ok ⟨ac.e,S⟩
 | none=>.bad
theorem zuA (ac:Ac) (S:Sto):stO ac (some S)=.ok ⟨ac.e,S⟩:=rfl
theorem zu2 {cl:zi} {kd:Bool} {k:Nat} {x v:X} {ac:Ac}:ex cl kd none (.store k x v) ac=stO ac (storeP ac.S k (ac.ev x) (ac.ev v)):=by
 unfold stO
 cases h:storeP ac.S k (ac.ev x) (ac.ev v) <;> simp only[ex,h]
def po (T:Nat) (o:Option Int) (r:Ret) (S:Sto):CO:=match o with | none=>.ok r S | some e=>.pan (.iface T (.int .i64 e)) S
theorem zwr (T:Nat) (r:Ret) (S:Sto):po T none r S=.ok r S:=rfl
theorem zvM (T:Nat) (e:Int) (r:Ret) (S:Sto):po T (some e) r S=.pan (.iface T (.int .i64 e)) S:=rfl
theorem zg {o:Option (List PV)} {k:Nat} {l:List PV} (h:o.map (List.take k)=some l):∃ r,o=some (l++r):=by
 cases o with
 | none=>cases h
 | some c=>simp only[Option.map_some,Option.some.injEq] at h;exact⟨c.drop k,by rw[←h,List.take_append_drop]⟩
theorem zc:∀ {S:Sto} {n t:Nat} {c:List PV},getBox S n t=some c→n < S.length
 | [],_,_,_,h=>by simp[getBox] at h
 | _::_,0,_,_,_=>by simp
 | _::S,n+1,t,c,h=>by have:=zc (S:=S) (n:=n) (t:=t) (c:=c) h;simp;omega
theorem zf8:∀ (S:Sto) (n t:Nat) (c:List PV),(setBox S n t c).length=S.length
 | [],_,_,_=>rfl
 | _::_,0,_,_=>rfl
 | _::S,n+1,t,c=>by simp[setBox,zf8 S n t c]
theorem zf1:∀ (S:Sto) (n:Nat) (k:AK) (A:Arr),(setArr S n k A).length=S.length
 | [],_,_,_=>rfl
 | _::_,0,_,_=>rfl
 | _::S,n+1,t,c=>by simp[setArr,zf1 S n t c]
theorem zfZ:∀ {S:Sto} {n:Nat} (t:Nat) (c:List PV),n < S.length→getBox (setBox S n t c) n t=some c
 | [],_,_,_,h=>by simp at h
 | _::_,0,_,_,_=>by simp[setBox,getBox,upd]
 | _::S,n+1,t,c,h=>by simp only[setBox,getBox];exact zfZ t c (by simpa using h)
theorem zf0:∀ {S:Sto} {n:Nat} (k:AK) (A:Arr),n < S.length→getArr (setArr S n k A) n k=some A
 | [],_,_,_,h=>by simp at h
 | _::_,0,_,_,_=>by simp[setArr,getArr,zd6]
 | _::S,n+1,t,c,h=>by simp only[setArr,getArr];exact zf0 t c (by simpa using h)
theorem zfY:∀ (S:Sto) (m:Nat) (k:AK) (A:Arr) (n t:Nat),getBox (setArr S m k A) n t=getBox S n t
 | [],_,_,_,_,_=>rfl
 | _::_,0,_,_,0,_=>rfl
 | _::_,0,_,_,_+1,_=>rfl
 | _::_,_+1,_,_,0,_=>rfl
 | _::S,m+1,k,A,n+1,t=>by simp only[setArr,getBox];exact zfY S m k A n t
theorem zga:∀ (S:Sto) (m t:Nat) (c:List PV) (n:Nat) (k:AK),getArr (setBox S m t c) n k=getArr S n k
 | [],_,_,_,_,_=>rfl
 | _::_,0,_,_,0,_=>rfl
 | _::_,0,_,_,_+1,_=>rfl
 | _::_,_+1,_,_,0,_=>rfl
 | _::S,m+1,k,A,n+1,t=>by simp only[setBox,getArr];exact zga S m k A n t
theorem zrd {α:Type} (f:Nat→α) (i:Nat) (a b:α):upd (upd f i a) i b=upd f i b:=by
 funext j;simp only[upd];split <;> rfl
theorem zoQ {α:Type} (f:AK→α) (i:AK) (a b:α):zd6 (zd6 f i a) i b=zd6 f i b:=by
 funext j;simp only[zd6];split <;> rfl
theorem zgk:∀ (S:Sto) (n t:Nat) (a b:List PV),setBox (setBox S n t a) n t b=setBox S n t b
 | [],_,_,_,_=>rfl
 | _::_,0,_,_,_=>by simp[setBox,zrd]
 | _::S,n+1,t,a,b=>by simp only[setBox,zgk S n t a b]
theorem zgd:∀ (S:Sto) (n:Nat) (k:AK) (a b:Arr),setArr (setArr S n k a) n k b=setArr S n k b
 | [],_,_,_,_=>rfl
 | _::_,0,_,_,_=>by simp[setArr,zoQ]
 | _::S,n+1,t,a,b=>by simp only[setArr,zgd S n t a b]
theorem zgb:∀ (S:Sto) (m:Nat) (k:AK) (A:Arr) (n t:Nat) (c:List PV),setBox (setArr S m k A) n t c=setArr (setBox S n t c) m k A
 | [],_,_,_,_,_,_=>rfl
 | _::_,0,_,_,0,_,_=>rfl
 | _::_,0,_,_,_+1,_,_=>rfl
 | _::_,_+1,_,_,0,_,_=>rfl
 | _::S,m+1,k,A,n+1,t,c=>by simp only[setArr,setBox,zgb S m k A n t c]
theorem zhL:∀ {S:Sto} {n t:Nat} {c:List PV},getBox S n t=some c→setBox S n t c=S
 | [],_,_,_,h=>rfl
 | f::_,0,t,c,h=>by
  simp only[getBox] at h
  have:upd f.box t (some c)=f.box:=by funext j;simp only[upd];split <;> simp_all
  simp[setBox,this]
 | _::S,n+1,t,c,h=>by simp only[setBox];rw[zhL (S:=S) (n:=n) h]
theorem zhI:∀ {S:Sto} {n:Nat} {k:AK} {A:Arr},getArr S n k=some A→setArr S n k A=S
 | [],_,_,_,h=>rfl
 | f::_,0,t,c,h=>by
  simp only[getArr] at h
  have:zd6 f.arr t (some c)=f.arr:=by funext j;simp only[zd6];split <;> simp_all
  simp[setArr,this]
 | _::S,n+1,t,c,h=>by simp only[setArr];rw[zhI (S:=S) (n:=n) h]
theorem zgB:∀ (S:Sto) (n t:Nat) (c:List PV) (m u:Nat),n≠m→getBox (setBox S n t c) m u=getBox S m u
 | [],_,_,_,_,_,_=>rfl
 | _::_,0,_,_,0,_,h=>absurd rfl h
 | _::_,0,_,_,_+1,_,_=>rfl
 | _::_,_+1,_,_,0,_,_=>rfl
 | _::S,n+1,t,c,m+1,u,h=>by simp only[setBox,getBox];exact zgB S n t c m u (fun e=>h (by rw[e]))
theorem zgu:∀ (S:Sto) (n:Nat) (k:AK) (c:Arr) (m:Nat) (u:AK),n≠m→getArr (setArr S n k c) m u=getArr S m u
 | [],_,_,_,_,_,_=>rfl
 | _::_,0,_,_,0,_,h=>absurd rfl h
 | _::_,0,_,_,_+1,_,_=>rfl
 | _::_,_+1,_,_,0,_,_=>rfl
 | _::S,n+1,t,c,m+1,u,h=>by simp only[setArr,getArr];exact zgu S n t c m u (fun e=>h (by rw[e]))
theorem zhP:∀ (S:Sto) (n t:Nat) (c:List PV) (m u:Nat) (d:List PV),n≠m→setBox (setBox S m u d) n t c=setBox (setBox S n t c) m u d
 | [],_,_,_,_,_,_,_=>rfl
 | _::_,0,_,_,0,_,_,h=>absurd rfl h
 | _::_,0,_,_,_+1,_,_,_=>rfl
 | _::_,_+1,_,_,0,_,_,_=>rfl
 | _::S,n+1,t,c,m+1,u,d,h=>by simp only[setBox];rw[zhP S n t c m u d (fun e=>h (by rw[e]))]
theorem zhM:∀ (S:Sto) (n:Nat) (t:AK) (c:Arr) (m:Nat) (u:AK) (d:Arr),n≠m→setArr (setArr S m u d) n t c=setArr (setArr S n t c) m u d
 | [],_,_,_,_,_,_,_=>rfl
 | _::_,0,_,_,0,_,_,h=>absurd rfl h
 | _::_,0,_,_,_+1,_,_,_=>rfl
 | _::_,_+1,_,_,0,_,_,_=>rfl
 | _::S,n+1,t,c,m+1,u,d,h=>by simp only[setArr];rw[zhM S n t c m u d (fun e=>h (by rw[e]))]
theorem znz {n m:Nat} (h:n≠m):(∀ (S:Sto) (t:Nat) (c:List PV) (u:Nat),getBox (setBox S n t c) m u=getBox S m u)∧(∀ (S:Sto) (t:Nat) (c:List PV) (u:Nat),getBox (setBox S m t c) n u=getBox S n u) ∧
  (∀ (S:Sto) (t:AK) (c:Arr) (u:AK),getArr (setArr S n t c) m u=getArr S m u)∧(∀ (S:Sto) (t:AK) (c:Arr) (u:AK),getArr (setArr S m t c) n u=getArr S n u) ∧
  (∀ (S:Sto) (t:Nat) (c:List PV) (u:Nat) (d:List PV),setBox (setBox S m u d) n t c=setBox (setBox S n t c) m u d)∧(∀ (S:Sto) (t:AK) (c:Arr) (u:AK) (d:Arr),setArr (setArr S m u d) n t c=setArr (setArr S n t c) m u d) :=
 ⟨fun S t c u=>zgB S n t c m u h,fun S t c u=>zgB S m t c n u (Ne.symm h),fun S t c u=>zgu S n t c m u h,fun S t c u=>zgu S m t c n u (Ne.symm h),fun S t c u d=>zhP S n t c m u d h,fun S t c u d=>zhM S n t c m u d h⟩
theorem zlX:∀ (n:Nat) (k:IntKind) (x:Int),PV.upN n (.int k x)=.int k x
 | 0,_,_=>rfl
 | n+1,k,x=>by simp[PV.upN,zlX n k x,PV.up]
theorem zkw:∀ (n:Nat) (x:Bool),PV.upN n (.bool x)=.bool x
 | 0,_=>rfl
 | n+1,x=>by simp[PV.upN,zkw n x,PV.up]
theorem zlF:∀ (n:Nat) (x:List UInt8),PV.upN n (.str x)=.str x
 | 0,_=>rfl
 | n+1,x=>by simp[PV.upN,zlF n x,PV.up]
theorem zko:∀ (n z:Nat) (x:List (List PV)) (f:Bool),PV.upN n (.list z x f)=.list z x f
 | 0,_,_,_=>rfl
 | n+1,z,x,f=>by simp[PV.upN,zko n z x f,PV.up]
theorem zos:∀ (n m:Nat) (a:AK) (o l v g:Nat) (f:Bool),PV.upN n (.sl m a o l v g f)=.sl (m+n) a o l v g f
 | 0,_,_,_,_,_,_,_=>rfl
 | n+1,m,a,o,l,v,g,f=>by simp[PV.upN,zos n m a o l v g f,PV.up];omega
theorem zlC:∀ (l:List PV),PV.upL l=l.map PV.up
 | []=>rfl
 | v::l=>by simp[PV.upL,zlC l]
theorem zlO:∀ (n:Nat) (l:List PV),PV.upN n (.agg l)=.agg (l.map (PV.upN n))
 | 0,l=>by simp[PV.upN]
 | n+1,l=>by simp[PV.upN,zlO n l,PV.up,zlC]
theorem zmc:∀ (n:Nat) (k:IntKind) (x:Int),PV.dnN n (.int k x)=some (.int k x)
 | 0,_,_=>rfl
 | n+1,k,x=>by simp[PV.dnN,PV.dn,zmc n k x]
theorem zkC:∀ (n:Nat) (x:Bool),PV.dnN n (.bool x)=some (.bool x)
 | 0,_=>rfl
 | n+1,x=>by simp[PV.dnN,PV.dn,zkC n x]
theorem zlH:∀ (n:Nat) (x:List UInt8),PV.dnN n (.str x)=some (.str x)
 | 0,_=>rfl
 | n+1,x=>by simp[PV.dnN,PV.dn,zlH n x]
theorem zkD:∀ (n f:Nat),PV.upN n (.func f [])=.func f []
 | 0,_=>rfl
 | n+1,f=>by simp[PV.upN,zkD n f,PV.up,PV.upL]
theorem zwp {α:Type} (xs:List α) (a:α) (l:List α) (b:α) (m:List α):(xs++(a::l))++(b::m)=xs++(a::(l++(b::m))):=by simp
theorem zmx (n:Nat):(n+1=0)=False:=by simp
mutual
theorem zl7 (d:Nat):∀ v:PV,v.up.kill d=v.up
 | .bool _ | .int _ _ | .str _ | .nils _ | .list _ _ _ | .rowp _ _ | .nili | .nile | .undef | .junk=>by simp[PV.up,PV.kill]
 | .agg vs=>by simp[PV.up,PV.kill,zd9 d vs]
 | .tup vs=>by simp[PV.up,PV.kill,zd9 d vs]
 | .ptr n t o=>by simp[PV.up,PV.kill]
 | .elem n a i o v g=>by simp[PV.up,PV.kill]
 | .sl n a o l v g f=>by simp[PV.up,PV.kill]
 | .func f caps=>by simp[PV.up,PV.kill,zd9 d caps]
 | .iface t v=>by simp[PV.up,PV.kill,zl7 d v]
theorem zd9 (d:Nat):∀ vs:List PV,PV.killL d (PV.upL vs)=PV.upL vs
 | []=>by simp[PV.upL,PV.killL]
 | v::vs=>by simp[PV.upL,PV.killL,zl7 d v,zd9 d vs]
end
def zc4 {α:Type} (p:α→Bool):Nat→List α→Int
 | _,[]=>-1
 | i,x::xs=>if p x=true then (i:Int) else zc4 p (i+1) xs
theorem zl5 {α:Type} (p:α→Bool):∀ (i:Nat) (xs:List α),(0≤zc4 p i xs)↔xs.any p=true
 | i,[]=>by simp[zc4]
 | i,x::xs=>by
  have:=zl5 p (i+1) xs
  simp only[zc4,List.any_cons]
  cases p x <;> simp[this]
theorem zlM {α:Type} (p:α→Bool) (xs:List α):decide (0≤zc4 p 0 xs)=xs.any p:=by
 have:=zl5 p 0 xs
 cases h:xs.any p <;> simp[h] at this ⊢ <;> omega
theorem zsr {α β:Type} (f:α→β) (a c:List α) (x:β):(a.map f++[x]++c.map f).take (a.length+1+c.length)=a.map f++[x]++c.map f:=List.take_of_length_le (by simp;omega)
theorem zwT {α:Type} (l:List α) (i:Nat) (a:α):(l.set i a)[i]?=(l[i]?).map fun _=>a:=by
 rw[List.getElem?_set]
 by_cases h:i < l.length
 ·simp[h]
 simp[h]
theorem zuZ {α β:Type} (f:α→β) (l:List α) (i:Nat) (x:β):((l.map f).set i x).take l.length=(l.map f).set i x:=List.take_of_length_le (by simp)
end Go.Proofs.YtfbcnpbhhooapaaGreatDoor.M
namespace Go.Proofs.YtfbcnpbhhooapaaGreatDoor.M
open Go Classical
set_option maxRecDepth 10000
theorem aI {a b:Prop} (x:a) (y:b):a∧b:=⟨x,y⟩
theorem V_k (k n:Int) (s:List UInt8) (l:List V):(V.mk k n s l).k=k:=rfl
theorem V_n (k n:Int) (s:List UInt8) (l:List V):(V.mk k n s l).n=n:=rfl
theorem V_s (k n:Int) (s:List UInt8) (l:List V):(V.mk k n s l).s=s:=rfl
theorem V_l (k n:Int) (s:List UInt8) (l:List V):(V.mk k n s l).l=l:=rfl
def lw0_:=PLift.up (aI @List.map_cons.{0,0}<|aI @List.map_nil.{0,0}<|aI @PV.up.eq_1<|aI @PV.up.eq_2<|aI @PV.up.eq_3<|aI @PV.up.eq_4<|aI @PV.up.eq_5<|aI @PV.up.eq_6<|aI @PV.up.eq_7<|aI @PV.up.eq_8<|aI @PV.up.eq_9<|aI @PV.up.eq_10<|aI @PV.up.eq_11<|aI @PV.up.eq_12<|aI @PV.up.eq_13<|aI @PV.up.eq_14<|aI @PV.up.eq_15<|aI @PV.up.eq_16<|aI @PV.upL.eq_1<|aI @PV.upL.eq_2<|aI @zAa<|aI @zz5<|aI @zxt<|aI @zAH<|aI @zzs<|aI @zyr<|aI @zAP<|aI @zyN<|aI @zwl<|aI @zxE<|aI @zwJ<|aI @zxj<|aI @zrc<|aI @zst<|aI @zrJ<|aI @zrR<|aI @zqm<|aI @zrH<|aI @zu3<|aI @ztf<|aI @zur<|aI @zxJ<|aI @zxK<|aI @zuU<|aI @List.tail_cons.{0}<|aI @ztP<|aI @zu0<|aI @zAF<|aI @zAJ<|aI @zzU<|aI @zAz<|aI @zuw<|aI @zAh<|aI @zAb<|aI @ex_v<|aI @zwL<|aI @ex.eq_1<|aI @ex.eq_2<|aI @ex.eq_3<|@ex.eq_4)
theorem lw0:type_of% lw0_.down:=lw0_.down
def lw1_:=PLift.up (aI @ex.eq_5<|aI @ex.eq_6<|aI @ex.eq_7<|aI @ex.eq_8<|aI @zu2<|aI @zuA<|aI @ex.eq_11<|aI @ex.eq_12<|aI @ex.eq_13<|aI @ex.eq_14<|aI @vop.eq_1<|aI @vop.eq_2<|aI @vop.eq_3<|aI @vop.eq_4<|aI @vop.eq_5<|aI @vop.eq_6<|aI @vop.eq_7<|aI @vop.eq_8<|aI @vop.eq_9<|aI @vop.eq_10<|aI @vop.eq_11<|aI @vop.eq_12<|aI @vop.eq_13<|aI @vop.eq_14<|aI @vop.eq_15<|aI @vop.eq_16<|aI @vop.eq_17<|aI @vop.eq_18<|aI @vop.eq_19<|aI @vop.eq_20<|aI @vop.eq_21<|aI @vop.eq_22<|aI @ev_t<|aI @ev_c<|aI @zug<|aI @zt9<|aI @znd<|aI @zsL<|aI @zrl<|aI @zv8<|aI @ne_eq.{1}<|aI @zw2<|aI @List.getElem?_cons_zero.{0}<|aI @List.getElem?_cons_succ.{0}<|aI @Option.getD_some.{0}<|aI @PV.cells.eq_1<|aI @PV.cells.eq_2<|aI @List.all_cons.{0}<|aI @List.all_nil.{0}<|aI @PV.one.eq_1<|aI @PV.one.eq_2<|aI @PV.one.eq_3<|aI @PV.one.eq_4<|aI @PV.one.eq_5<|aI @Bool.and_true<|aI @Bool.true_and<|aI @if_true.{1}<|aI @and_self<|aI @true_and<|@and_true)
theorem lw1:type_of% lw1_.down:=lw1_.down
def lw2_:=PLift.up (aI @killS.eq_1<|aI @killS.eq_2<|aI @ztx<|aI @zuO<|aI @zAX<|aI @zAy<|aI @AK.tmp.eq_1<|aI @AK.tmp.eq_2<|aI @PV.killL.eq_1<|aI @PV.killL.eq_2<|aI @PV.kill.eq_1<|aI @PV.kill.eq_2<|aI @PV.kill.eq_3<|aI @PV.kill.eq_4<|aI @PV.kill.eq_5<|aI @PV.kill.eq_6<|aI @PV.kill.eq_7<|aI @PV.kill.eq_8<|aI @PV.kill.eq_9<|aI @PV.kill.eq_10<|aI @PV.kill.eq_11<|aI @PV.kill.eq_12<|aI @PV.kill.eq_13<|aI @PV.kill.eq_14<|aI @PV.kill.eq_15<|aI @PV.kill.eq_16<|aI @zum<|aI @newBox.eq_1<|aI @newBox.eq_2<|aI @initC.eq_1<|aI @initC.eq_2<|aI @initC.eq_3<|aI @initA.eq_1<|aI @initA.eq_2<|aI @initA.eq_3<|aI @ld.eq_1<|aI @ld.eq_2<|aI @ld.eq_3<|aI @ld.eq_4<|aI @getBox.eq_1<|aI @getBox.eq_2<|aI @getBox.eq_3<|aI @setBox.eq_1<|aI @setBox.eq_2<|aI @setBox.eq_3<|aI @getArr.eq_1<|aI @getArr.eq_2<|aI @getArr.eq_3<|aI @setArr.eq_1<|aI @setArr.eq_2<|aI @setArr.eq_3<|aI @pickC.eq_1<|aI @pickC.eq_2<|aI @Option.map_some.{0,0}<|aI @Option.map_none.{0,0}<|aI @PV.upN.eq_1<|aI @PV.upN.eq_2<|aI @binP.eq_1<|aI @binP.eq_2<|@binP.eq_3)
theorem lw2:type_of% lw2_.down:=lw2_.down
def lw3_:=PLift.up (aI @binP.eq_4<|aI @binP.eq_5<|aI @binP.eq_6<|aI @binP.eq_7<|aI @binP.eq_8<|aI @binP.eq_9<|aI @binP.eq_10<|aI @binP.eq_11<|aI @binP.eq_12<|aI @binP.eq_13<|aI @binP.eq_14<|aI @binP.eq_15<|aI @binP.eq_16<|aI @binInt.eq_1<|aI @binInt.eq_2<|aI @binInt.eq_3<|aI @binInt.eq_4<|aI @binInt.eq_5<|aI @binInt.eq_6<|aI @binInt.eq_7<|aI @binInt.eq_8<|aI @binInt.eq_9<|aI @binInt.eq_10<|aI @binInt.eq_11<|aI @binInt.eq_12<|aI @binStr.eq_1<|aI @binStr.eq_2<|aI @binStr.eq_3<|aI @binStr.eq_4<|aI @binStr.eq_5<|aI @binStr.eq_6<|aI @binStr.eq_7<|aI @binStr.eq_8<|aI @binB.eq_1<|aI @binB.eq_2<|aI @unP.eq_1<|aI @unP.eq_2<|aI @unP.eq_3<|aI @zu7<|aI @zr5<|aI @zxh<|aI @zw6<|aI @not_false_eq_true<|aI @not_true_eq_false<|aI @Nat.zero_add<|aI @Nat.add_zero<|aI @zws<|aI @zwt<|aI @List.length_cons.{0}<|aI @List.length_nil.{0}<|aI @List.drop_succ_cons.{0}<|aI @List.drop_zero.{0}<|aI @List.take_succ_cons.{0}<|aI @List.take_zero.{0}<|aI @fillP.eq_1<|aI @fillP.eq_2<|aI @setAt.eq_1<|aI @setAt.eq_2<|aI @List.set_cons_zero.{0}<|@List.set_cons_succ.{0})
theorem lw3:type_of% lw3_.down:=lw3_.down
def lw4_:=PLift.up (aI @storeP.eq_1<|aI @storeP.eq_2<|aI @storeP.eq_3<|aI @stCells.eq_1<|aI @stCells.eq_2<|aI @stCell.eq_1<|aI @stCell.eq_2<|aI @stCell.eq_3<|aI @stCell.eq_4<|aI @PV.dnN.eq_1<|aI @PV.dnN.eq_2<|aI @PV.dn.eq_1<|aI @PV.dn.eq_2<|aI @PV.dn.eq_3<|aI @PV.dn.eq_4<|aI @PV.dn.eq_5<|aI @PV.dn.eq_6<|aI @PV.dn.eq_7<|aI @PV.dn.eq_8<|aI @PV.dn.eq_9<|aI @PV.dn.eq_10<|aI @PV.dn.eq_11<|aI @PV.dn.eq_12<|aI @PV.dn.eq_13<|aI @PV.dn.eq_14<|aI @PV.dn.eq_15<|aI @PV.dn.eq_16<|aI @PV.dn.eq_17<|aI @PV.dn.eq_18<|aI @PV.dn.eq_19<|aI @PV.dnL.eq_1<|aI @PV.dnL.eq_2<|aI @retOf.eq_1<|aI @rdRes.eq_1<|aI @rdRes.eq_2<|aI @rdRes.eq_3<|aI @retL.eq_1<|aI @retL.eq_2<|aI @ret1.eq_1<|aI @ret1.eq_2<|aI @ret1.eq_3<|aI @ret1.eq_4<|aI @retV.eq_1<|aI @hand.eq_1<|aI @hand.eq_2<|aI @hand1.eq_1<|aI @hand1.eq_2<|aI @hand1.eq_3<|aI @hand1.eq_4<|aI @handL.eq_1<|aI @handL.eq_2<|aI @handA.eq_1<|aI @handA.eq_2<|aI @callP.eq_1<|aI @callP.eq_2<|aI @List.append_nil.{0}<|aI @List.nil_append.{0}<|aI @List.any_cons.{0}<|aI @List.any_nil.{0}<|@PV.hasSl.eq_1)
theorem lw4:type_of% lw4_.down:=lw4_.down
def lw5_:=PLift.up (aI @PV.hasSl.eq_2<|aI @PV.isSl.eq_1<|aI @PV.isSl.eq_2<|aI @Bool.or_false<|aI @Bool.false_or<|aI @Bool.false_eq_true<|aI @if_false.{1}<|aI @slcP.eq_1<|aI @slcP.eq_2<|aI @slcP.eq_3<|aI @slcP.eq_4<|aI @slcGo.eq_1<|aI @fullOf.eq_1<|aI @fullOf.eq_2<|aI @idx.eq_1<|aI @idx.eq_2<|aI @idx.eq_3<|aI @iaddrP.eq_1<|aI @iaddrP.eq_2<|aI @iaddrP.eq_3<|aI @iaddrP.eq_4<|aI @lenP.eq_1<|aI @lenP.eq_2<|aI @lenP.eq_3<|aI @lenP.eq_4<|aI @lenS.eq_1<|aI @lenS.eq_2<|aI @appendP.eq_1<|aI @newArr.eq_1<|aI @view.eq_1<|aI @view.eq_2<|aI @view.eq_3<|aI @view.eq_4<|aI @srcRows.eq_1<|aI @srcRows.eq_2<|aI @srcRows.eq_3<|aI @bigRow.eq_1<|aI @okA.eq_1<|aI @okA.eq_2<|aI @okA.eq_3<|aI @eqCells.eq_1<|aI @eqCells.eq_2<|aI @eqCells.eq_3<|aI @eqCells.eq_4<|aI @eqCells.eq_5<|aI @convP.eq_1<|aI @convP.eq_2<|aI @convP.eq_3<|aI @convP.eq_4<|aI @convP.eq_5<|aI @slsP.eq_1<|aI @slsP.eq_2<|aI @zAi<|aI @zzV<|aI @List.cons_append.{0}<|aI @Option.getD_none.{0}<|aI @List.getElem?_nil.{0}<|aI @AK.slot.injEq<|aI @AK.cell.injEq<|@decide_true)
theorem lw5:type_of% lw5_.down:=lw5_.down
def lw6_:=PLift.up (aI @decide_false<|aI @Bool.not_true<|aI @Bool.not_false<|aI @Option.isNone_none.{0}<|aI @Option.isSome_none.{0}<|aI @Option.isSome_some.{0}<|aI @Option.isNone_some.{0}<|aI @prep.eq_1<|aI @prep.eq_2<|aI @Ac.kill.eq_1<|aI @PV.int.injEq<|aI @beq_self_eq_true.{0}<|aI @decide_eq_true_eq<|aI @Bool.not_eq_true<|aI @decide_eq_false_iff_not<|aI @true_or<|aI @or_true<|aI @false_or<|aI @or_false<|aI @false_and<|aI @and_false<|aI @Bool.not_not<|aI @Classical.not_not<|aI @Bool.false_and<|aI @Bool.and_false<|aI @Bool.and_self<|aI @ite_self.{1}<|aI @PV.pure.eq_1<|aI @PV.pure.eq_2<|aI @PV.pure.eq_3<|aI @PV.pure.eq_4<|aI @PV.pure.eq_5<|aI @PV.pure.eq_6<|aI @PV.pure.eq_7<|aI @PV.pure.eq_8<|aI @PV.pure.eq_9<|aI @PV.plain.eq_1<|aI @PV.plain.eq_2<|aI @PV.plain.eq_3<|aI @PV.plain.eq_4<|aI @PV.plain.eq_5<|aI @PV.plain.eq_6<|aI @PV.plain.eq_7<|aI @PV.plain.eq_8<|aI @PV.plain.eq_9<|aI @PV.plainL.eq_1<|aI @PV.plainL.eq_2<|aI @Ret.plain.eq_1<|aI @Ret.plain.eq_2<|aI @allPure.eq_1<|aI @List.isEmpty_nil.{0}<|aI @List.isEmpty_cons.{0}<|aI @Bool.or_true<|aI @Bool.true_or<|aI @zgy<|aI @List.length_map.{0,0}<|aI @zmX<|aI @List.getElem?_map.{0,0}<|aI @zrt<|@zq4)
theorem lw6:type_of% lw6_.down:=lw6_.down
def lw7_:=PLift.up (aI @zrh<|aI @zsE<|aI @zts<|aI @zmr<|aI @zm9<|aI @zdX<|aI @Int.toNat_natCast<|aI @zAD<|aI @zwE<|aI @zhf<|aI @bytesOf.eq_1<|aI @bytesOf.eq_2<|aI @bytesOf.eq_3<|aI @zkx<|aI @zvc<|aI @eI.eq_1<|aI @eK.eq_1<|aI @eB.eq_1<|aI @eS.eq_1<|aI @eO.eq_1<|aI @rowsP.eq_1<|aI @rowsP.eq_2<|aI @List.replicate.eq_1.{0}<|aI @List.replicate.eq_2.{0}<|aI @List.length_append.{0}<|aI @zob<|aI @zmd<|aI @znr<|@List.map_append.{0,0})
theorem lw7:type_of% lw7_.down:=lw7_.down
theorem zoI (n:Nat):(n≤n)=True:=by simp
theorem ex_w {cl:zi} {kd:Bool} {d:Option Nat} {o:VO} {ac:Ac}:ex cl kd d (.w o) ac=vo d ac (vop ac.ev [] o):=rfl
theorem zxe {SP:Prg} {ac:Ac} {ops:List SOper} {tot:List Bool}:thF SP (.nor ac) ops tot=evD (call SP) ops tot (prep ops ac):=rfl
theorem zsz (a:List PV):zW a []=a:=by simp[zW]
theorem zpW (a vs:List PV):zW a [.tup vs]=vs++a:=rfl
theorem zrS (a:List PV) (u v:PV) (r:List PV):zW a (u::v::r)=a++(u::v::r):=by cases u <;> rfl
theorem zqo (a:List PV) (b:Bool):zW a [.bool b]=a++[.bool b]:=rfl
theorem zs4 (a:List PV) (k:IntKind) (n:Int):zW a [.int k n]=a++[.int k n]:=rfl
theorem zsk (a:List PV) (s:List UInt8):zW a [.str s]=a++[.str s]:=rfl
theorem zpQ (a:List PV) (z:Nat):zW a [.nils z]=a++[.nils z]:=rfl
theorem zpN (a:List PV) (z:Nat) (r:List (List PV)) (f:Bool):zW a [.list z r f]=a++[.list z r f]:=rfl
theorem zsU (a:List PV) (vs:List PV):zW a [.agg vs]=a++[.agg vs]:=rfl
theorem zs7 (a:List PV) (n t o:Nat):zW a [.ptr n t o]=a++[.ptr n t o]:=rfl
theorem zqK (a:List PV) (r:List PV) (o:Nat):zW a [.rowp r o]=a++[.rowp r o]:=rfl
theorem zqL (a:List PV) (n:Nat) (k:AK) (i o v g:Nat):zW a [.elem n k i o v g]=a++[.elem n k i o v g]:=rfl
theorem zuB (a:List PV) (n:Nat) (k:AK) (o l v g:Nat) (f:Bool):zW a [.sl n k o l v g f]=a++[.sl n k o l v g f]:=rfl
theorem zpX (a:List PV) (f:Nat) (c:List PV):zW a [.func f c]=a++[.func f c]:=rfl
theorem zoP (a:List PV) (t:Nat) (v:PV):zW a [.iface t v]=a++[.iface t v]:=rfl
theorem zqI (a:List PV) :zW a [.nili]=a++[.nili]:=rfl
def lw_:=PLift.up (aI abO<|aI zoI<|aI @ex_w<|aI @zx8<|aI @zxe<|aI @frzC.eq_1<|aI @frzC.eq_2<|aI @zkD<|aI @zwp<|aI @zsz<|aI @zpW<|aI @zrS<|aI @zqo<|aI @zs4<|aI @zsk<|aI @zpQ<|aI @zpN<|aI @zsU<|aI @zs7<|aI @zqK<|aI @zqL<|aI @zuB<|aI @zpX<|aI @zoP<|aI @zqI<|aI @vop.eq_23<|aI @vop.eq_24<|aI @ac0.eq_1<|aI @zf8<|aI @zf1<|aI @zfZ<|aI @zf0<|aI @zfY<|aI @zga<|aI @zgk<|aI @zgd<|aI @zgb<|aI @zhL<|aI @zhI<|aI @zlX<|aI @zkw<|aI @zlF<|aI @zko<|aI @zos<|aI @zlO<|aI @zmc<|aI @zkC<|aI @zlH<|aI @zmx<|aI @zd9<|aI @AK.isCell.eq_1<|aI @AK.isCell.eq_2<|aI lw0<|aI lw1<|aI lw2<|aI lw3<|aI lw4<|aI lw5<|aI lw6<|lw7)
theorem lw:type_of% lw_.down:=lw_.down
theorem zxw {p:Nat→Prop}:(∀ x ∈ ([]:List Nat),p x)=True:=by simp
theorem ztv (n t o:Nat):(PV.ptr n t o).pure=false:=rfl
theorem zvN {res:List RX} {v:PV} {S:Sto}:fin res (.pan v S)=match v.dn with | some v=>.pan v S.tail | none=>.bad:=rfl
theorem zxR {K:Ac→EO} {ac:Ac}:nxT K (.ok ac)=K ac:=rfl
theorem zwR {K:Ac→EO} {v:PV} {S:Sto}:nxT K (.pan v S)=.pan v S:=rfl
theorem zq7 {ds:List Nat} {a b:Ac}:zjg ds (.nor a) (.nor b)=(a.S=b.S∧∀ d ∈ ds,a.e d=b.e d):=rfl
theorem zsK {ds:List Nat} {v v':PV} {S S':Sto}:zjg ds (.pan v S) (.pan v' S')=(v=v'∧S=S'):=rfl
theorem zxF {cl:zi} {l:List SOper} {i:Nat} {ac:Ac}:za6 cl l i ac=match l[i]? with | some o=>stp cl false o ac | none=>.bad:=rfl
def lx_:=PLift.up (aI @zwr<|aI @zvM<|aI @zvN<|aI @zzL<|aI @evT.eq_1<|aI @evT.eq_2<|aI @evTs.eq_1<|aI @evTs.eq_2<|aI @zxR<|aI @zwR<|aI @zq7<|aI @zsK<|aI @zxF<|aI @List.forall_mem_cons.{0}<|aI @zxw<|aI @ztv<|aI (show IntKind.u64.bits=64 from rfl)<|aI (show min 1 64=1 from rfl)<|aI (show (2:Int) ^ 1=2 from rfl)<|aI @decide_not<|aI @zoK<|aI @zoT<|aI @Option.bind_some.{0,0}<|aI @UInt8.toNat_zero<|aI @UInt8.ofNat_toNat<|aI @Int.natCast_zero<|aI @Int.ofNat_eq_natCast<|aI @Nat.zero_le<|aI @Nat.sub_zero<|aI @zsr<|aI @zwT<|aI @zuZ<|aI @List.length_set.{0}<|aI @List.map_set.{0,0}<|@Int.cast_ofNat_Int)
theorem lx:type_of% lx_.down:=lx_.down
end Go.Proofs.YtfbcnpbhhooapaaGreatDoor.M
namespace Go.Proofs.YtfbcnpbhhooapaaGreatDoor.M
open Go
structure Part where
  Ref:Bool
  Text:List UInt8
def ePart (x:Part):List PV:=[.bool x.Ref,.str x.Text]
def eLPart (x:List Part):List PV:=[.list 2 (x.map ePart) false]
structure Node where
  Kind:Int
  Num:Int
  Text:List UInt8
  Parts:List Part
  Kids:List Int
def eNode (x:Node):List PV:=[.int .i64 x.Kind,.int .i64 x.Num,.str x.Text,.list 2 (x.Parts.map ePart) false,.list 1 (x.Kids.map eI) false]
structure Attr where
  Name:List UInt8
  Expr:List Node
def eAttr (x:Attr):List PV:=[.str x.Name,.list 5 (x.Expr.map eNode) false]
structure Block where
  Kind:Int
  Label:List UInt8
  Attrs:List Attr
  Blocks:List Block
mutual
def zF:Block→List PV
  | .mk a0 a1 a2 a3=>[.int .i64 a0,.str a1,.list 2 (a2.map eAttr) false,.list 4 (zi2 a3) false]
def zi2:List Block→List (List PV)
  | []=>[]
  | b::r=>zF b::zi2 r
end
theorem zkM:∀ l,zi2 l=l.map zF
  | []=>rfl
  | b::r=>by rw[zi2,zkM r];rfl
theorem zsm (x:Block):zF x=[.int .i64 x.Kind,.str x.Label,.list 2 (x.Attrs.map eAttr) false,.list 4 (x.Blocks.map zF) false]:=by cases x;rw[zF,zkM]
structure Parsed where
  L:List Block
  E:Int
def eParsed (x:Parsed):List PV:=[.list 4 (x.L.map zF) false,.int .i64 x.E]
structure Read where
  L:List Node
  E:Int
def eRead (x:Read):List PV:=[.list 5 (x.L.map eNode) false,.int .i64 x.E]
structure Token where
  Kind:Int
  Text:List UInt8
  Num:Int
  Parts:List Part
  At:Int
def eToken (x:Token):List PV:=[.int .i64 x.Kind,.str x.Text,.int .i64 x.Num,.list 2 (x.Parts.map ePart) false,.int .i64 x.At]
structure PTokens where
  l:List Token
  pos:Int
def ePTokens (x:PTokens):List PV:=[.list 5 (x.l.map eToken) false,.int .i64 x.pos]
structure PExprs where
  tokens:PTokens
  out:List Node
  deep:Int
def ePExprs (x:PExprs):List PV:=[.list 5 (x.tokens.l.map eToken) false,.int .i64 x.tokens.pos,.list 5 (x.out.map eNode) false,.int .i64 x.deep]
structure PBlocks where
  exprs:PExprs
def ePBlocks (x:PBlocks):List PV:=[.list 5 (x.exprs.tokens.l.map eToken) false,.int .i64 x.exprs.tokens.pos,.list 5 (x.exprs.out.map eNode) false,.int .i64 x.exprs.deep]
structure zoY where
  out:List UInt8
def eSWriter (x:zoY):List PV:=[.list 1 (x.out.map eB) false]
structure Tokens where
  L:List Token
  E:Int
def eTokens (x:Tokens):List PV:=[.list 5 (x.L.map eToken) false,.int .i64 x.E]
structure reader where
  l:List Token
  i:Int
  deep:Int
  e:Int
  out:List Node
def ereader (x:reader):List PV:=[.list 5 (x.l.map eToken) false,.int .i64 x.i,.int .i64 x.deep,.int .i64 x.e,.list 5 (x.out.map eNode) false]
structure zwX where
  writer:zoY
def eSBlocks (x:zwX):List PV:=[.list 1 (x.writer.out.map eB) false]
structure LText where
  left:List UInt8
  pos:Int
def eLText (x:LText):List PV:=[.str x.left,.int .i64 x.pos]
structure LTokens where
  text:LText
  out:List Token
def eLTokens (x:LTokens):List PV:=[.str x.text.left,.int .i64 x.text.pos,.list 5 (x.out.map eToken) false]
def le_:=PLift.up (aI @zzg<|aI @eI.eq_1<|aI @eK.eq_1<|aI @eB.eq_1<|aI @eS.eq_1<|aI @eO.eq_1<|aI @eF.eq_1<|aI @eLB.eq_1<|aI @eLS.eq_1<|aI @V_k<|aI @V_n<|aI @V_s<|aI @V_l<|aI @zob<|aI @zmd<|aI @znr<|aI @List.map_cons.{0,0}<|aI @List.map_nil.{0,0}<|aI @List.map_append.{0,0}<|aI @ePart.eq_1<|aI @eLPart.eq_1<|aI @eNode.eq_1<|aI @eAttr.eq_1<|aI @eParsed.eq_1<|aI @eRead.eq_1<|aI @eToken.eq_1<|aI @ePTokens.eq_1<|aI @ePExprs.eq_1<|aI @ePBlocks.eq_1<|aI @eSWriter.eq_1<|aI @eTokens.eq_1<|aI @ereader.eq_1<|aI @eSBlocks.eq_1<|aI @eLText.eq_1<|aI @eLTokens.eq_1<|@zsm)
theorem le:type_of% le_.down:=le_.down
theorem aa {p q:Prop} (a:p) (b:q):p∧q:=⟨a,b⟩
theorem fi {p F:Prop} (f:F) (h:F→p:=by intro f;simp only[f,lw,lx,le,Nat.reduceMul,UInt8.reduceToNat,reduceIte,reduceCtorEq,Nat.reduceEqDiff,Nat.reduceAdd,Nat.reduceLeDiff,Nat.reduceSub,Nat.reduceLT,Int.reduceEq,Int.reduceLT,Int.reduceLE,Int.reduceToNat,Int.reduceAdd,Int.reduceSub,Int.reduceMul,Int.reduceNeg]):p:=h f
theorem lF:type_of% (aI le (aI @List.cons_append.{0} @List.nil_append.{0})):=aI le (aI @List.cons_append.{0} @List.nil_append.{0})
theorem lo {p F A:Prop} (f:F) (t:A) (h:F→A→p:=by intro f t;(try simp only[f,lw,lx,le,Nat.reduceMul,UInt8.reduceToNat,reduceIte,reduceCtorEq,Nat.reduceEqDiff,Nat.reduceAdd,Nat.reduceLeDiff,Nat.reduceSub,Nat.reduceLT,Int.reduceEq,Int.reduceLT,Int.reduceLE,Int.reduceToNat,Int.reduceAdd,Int.reduceSub,Int.reduceMul,Int.reduceNeg]);refine t _ _ _ ?_;simp only[f,lw,lx,le,Nat.reduceMul,UInt8.reduceToNat,reduceIte,reduceCtorEq,Nat.reduceEqDiff,Nat.reduceAdd,Nat.reduceLeDiff,Nat.reduceSub,Nat.reduceLT,Int.reduceEq,Int.reduceLT,Int.reduceLE,Int.reduceToNat,Int.reduceAdd,Int.reduceSub,Int.reduceMul,Int.reduceNeg]):p:=h f t
theorem ue {c d:SC} (h:c=d):∀ (SP:Prg) (ac:Ac),E SP c ac=E SP d ac:=fun SP ac=>congrFun (congrArg (E SP) h) ac
noncomputable section
def rcv_Q36:zcS:=⟨2,(.seq (.reg [ ⟨some 4,none,.alloc [(.int .i64 0)]⟩]) (.seq (.reg [ ⟨some 7,none,.v (.mov (.t 0))⟩,⟨some 8,none,.call (.c (.func 60 [])) [(.t 7)]⟩,⟨some 6,none,.v (.mov (.t 8))⟩,⟨some 9,none,.v (.extract 0 (.t 6))⟩,⟨some 10,none,.v (.extract 1 (.t 6))⟩,⟨some 5,none,.v (.mov (.t 9))⟩,⟨none,none,.store 1 (.t 4) (.t 10)⟩]) (.seq (.seq (.reg [ ⟨some 11,none,.v (.load none (.t 4))⟩,⟨some 12,none,.v (.bin .neq (.t 11) (.c (.int .i64 0)))⟩]) (.cond (.t 12) (.seq (.reg [ ⟨some 13,none,.v (.load none (.t 4))⟩,⟨none,none,.store 1 (.t 4) (.t 13)⟩]) .ret) .skip)) .skip))),14,4,[⟨some 15,none,.v (.mov (.t 1))⟩,⟨some 16,none,.v (.mov (.t 5))⟩,⟨some 17,none,.v (.build [(.nils 5),(.int .i64 0)] [(0,1,(.t 16))])⟩,⟨some 18,none,.v (.build [(.nils 5),(.int .i64 0),(.nils 5),(.int .i64 0)] [(0,2,(.t 17))])⟩,⟨some 19,none,.v (.build [(.nils 5),(.int .i64 0),(.nils 5),(.int .i64 0)] [(0,4,(.t 18))])⟩,⟨some 20,none,.box (.t 19)⟩,⟨some 21,none,.call (.t 15) [(.t 20)]⟩],(.seq (.reg [ ⟨none,none,.store 1 (.t 4) (.c (.int .i64 0))⟩]) .ret),[(.cell 4 none)],116⟩
def zhV:SC:=(.reg [⟨some 4,none,.alloc [(.int .i64 0)]⟩])
def zhY:SC:=(.reg [⟨some 7,none,.v (.mov (.t 0))⟩,⟨some 8,none,.call (.c (.func 60 [])) [(.t 7)]⟩,⟨some 6,none,.v (.mov (.t 8))⟩,⟨some 9,none,.v (.extract 0 (.t 6))⟩,⟨some 10,none,.v (.extract 1 (.t 6))⟩,⟨some 5,none,.v (.mov (.t 9))⟩,⟨none,none,.store 1 (.t 4) (.t 10)⟩])
def zhZ:SC:=(.seq (.reg [⟨some 11,none,.v (.load none (.t 4))⟩,⟨some 12,none,.v (.bin .neq (.t 11) (.c (.int .i64 0)))⟩]) (.cond (.t 12) (.seq (.reg [⟨some 13,none,.v (.load none (.t 4))⟩,⟨none,none,.store 1 (.t 4) (.t 13)⟩]) .ret) .skip))
def zeL:Code→Code | .seq a _=>a | c=>c
def zj:Code→Code | .seq _ b=>b | c=>c
def zdI:Code→Array Oper | .region _ o _=>o | _=>#[]
def zrY:Code→Nat | .region i _ _=>i | _=>0
noncomputable def zfi:Code:=(Tryz.f36.body).getD .skip
noncomputable def zj0:Oper:=(zdI (zeL (zj (zj (zj zfi)))))[0]!
noncomputable def zjX:Oper:=(zdI (zeL (zj (zj (zj zfi)))))[1]!
theorem zjQ (v:Value) (w:World):(Instr.typeAssert (.iface 116 v) 20 116 true).run Tryz.prog w=.ok (.tuple #[v,.bool true]) w:=by
  have hu:Tryz.prog.underlying 116=some (.int .i64):=by kernel_rfl
  simp[Instr.typeAssert,run_underlying hu,go_sem,Result.andThen]
theorem ziM (v:Value) (w:World):CallsD Tryz.prog 61 #[v] .returning w fun e u' w'=>(∃ v,e=.returned v)∧u'=.returning∧w'=w:=by
  refine callsD_of_wpS Tryz.func61 rfl fun c₀ cs hu=>?_
  apply wpS_seq
  apply wpS_region
  simp[wpOpsS,go_sem,recoverD,hu,Tryz.ntmps61,Exit.thenS]
  apply wpS_seq
  apply wpS_region
  simp[wpOpsS,go_sem,Exit.thenS]
  refine wpS_cond (t:=false) (by simp[Act.eval,Array.replicate]) ?_
  simp only[Bool.false_eq_true,if_false]
  refine wpS_of_wp (wp_skip ?_)
  cases c₀
  simp_all [bodyPostS,results,Tryz.results61]
theorem zhW (v:Value) (k:IntKind) (m:Int) (w w':World) (h:(Instr.storeAt 27 v (.int k m)).run Tryz.prog w=.ok () w') :
    CallsD Tryz.prog 61 #[v] (.panicking [{ v:=.iface 116 (.int k m),recovered:=false }]) w fun e u' w''=>(∃ v,e=.returned v)∧u'=.panicking [{ v:=.iface 116 (.int k m),recovered:=true }]∧w''=w':=by
  refine callsD_of_wpS Tryz.func61 rfl fun c₀ cs hu=>?_
  apply wpS_seq
  apply wpS_region
  simp[wpOpsS,go_sem,recoverD,hu,Tryz.ntmps61,Exit.thenS]
  apply wpS_seq
  apply wpS_region
  simp[wpOpsS,go_sem,Exit.thenS]
  refine wpS_cond (t:=true) (by simp[Act.eval,Array.replicate]) ?_
  simp only[if_true]
  apply wpS_seq
  apply wpS_region
  simp[wpOpsS,go_sem,Exit.thenS,zjQ]
  apply wpS_seq
  apply wpS_seq
  apply wpS_region
  simp[wpOpsS,go_sem,Exit.thenS]
  refine wpS_cond (t:=false) (by simp[Act.eval,Array.replicate]) ?_
  simp only[Bool.false_eq_true,if_false]
  refine wpS_of_wp (wp_skip ?_)
  simp only[Exit.thenS]
  apply wpS_region
  simp[wpOpsS,Region.wanted,show List.range.loop 2 []=[0,1] from rfl,List.range,execOp,Act.eval,Act.put,Oper.upon,h,bodyPostS,results,Tryz.results61]
noncomputable def zjU:Code:=(Tryz.f61.body).getD .skip
theorem zs3 [Base]:zqq Tryz.prog 36 rcv_Q36:=zza (fk:=61) (fn:=Tryz.f36) (l:=[(zeL zfi,zhV),(zeL (zj zfi),zhY),(zeL (zj (zj zfi)),zhZ)]) (i4:=zrY (zeL (zj (zj (zj zfi))))) (i5:=zrY (zeL (zj (zj (zj (zj zfi)))))) (o1:=zj0) (o2:=zjX) (ops:=(zdI (zeL (zj (zj (zj (zj zfi))))))) (cz:=(zj (zj (zj (zj (zj zfi)))))) (ty:=27)
  { func:=Tryz.func36
    name:=by decide
    body:=by rfl
    mk_:=by rfl
    mkd:=by rfl
    mkg:=by rfl
    df:=⟨_,by rfl⟩
    dfd:=by rfl
    dfg:=by rfl
    pre:=by rfl
    cpre:=by
      intro p hp
      simp only[List.mem_cons,List.not_mem_nil,or_false] at hp
      rcases hp with rfl | rfl | rfl
      all_goals kernel_rfl
    cops:=by kernel_rfl
    cpost:=by kernel_rfl
    cres:=by kernel_rfl
    nargs:=by decide
    dn:=by decide
    tn:=by decide
    dst:=by decide
    kty:=⟨none,by kernel_rfl,rfl⟩
    enter:=fun v w=>by unfold callFunc;simp[Tryz.func61,show Tryz.f61.body=some zjU from rfl,show ¬ Tryz.f61.name = "runtime.NumGoroutine" from by decide]
    idle:=ziM
    takes:=zhW }
end
end Go.Proofs.YtfbcnpbhhooapaaGreatDoor.M
namespace Go.Proofs.YtfbcnpbhhooapaaGreatDoor.Bk
open Go Go.RowKit Go.Shelf
attribute [local go_sem] Oper.semAt_some
def ze8 {α:Type} (f:Nat→α) (k:Nat):List α:=(List.range k).map f
theorem zim {α:Type} (f:Nat→α) (k:Nat):ze8 f (k+1)=ze8 f k++[f k]:=by simp[ze8,List.range_succ]
theorem zox {α:Type} (f:Nat→α) (k:Nat):(ze8 f k).length=k:=by simp[ze8]
def bk (zs:List Int) (k:Nat):Int × Int:=((zs.length:Int) - 1 - k,zs[zs.length - 1 - k]?.getD 0)
structure Kq (n₀ Bs:Nat) (W W':World):Prop where
 b:Below n₀ W W'
 k:W'.heap[Bs]?=W.heap[Bs]?
theorem Kq.refl (n₀ Bs:Nat) (W:World):Kq n₀ Bs W W:=⟨Below.refl _ _,rfl⟩
theorem Kq.trans {n₀ Bs:Nat} {A B C:World} (h:Kq n₀ Bs A B) (k:Kq n₀ Bs B C):Kq n₀ Bs A C:=⟨h.b.trans k.b,k.k.trans h.k⟩
theorem Kq.cell {n₀ Bs:Nat} {A B:World} (h:Kq n₀ Bs A B):B.cell? ⟨Bs,0,none⟩=A.cell? ⟨Bs,0,none⟩:=by simp[World.cell?,h.k]
theorem Kq.put {n₀ Bs:Nat} {w:World} (hn:n₀≤w.heap.size) (hB:Bs < w.heap.size) (W:World) (l:Nat) (o o':Obj) (hl:w.heap.size≤l) (h:W.heap[l]?=some o) (h1:o.isCells=false) (h2:o.isWalk=false):Kq n₀ Bs W (W.putObj l o') :=
 ⟨belowK_b hn W l o o' hl h h1 h2,(belowK_b (w:=w) (Nat.le_refl _) W l o o' hl h h1 h2).block Bs hB⟩
set_option maxRecDepth 100000 in
theorem ztW (F:Fence) (n:Nat) (h8:F.fn 117) (hro:F.round=none) (hn:1≤n) (l Bs n₀ b off cap:Nat) (zs:List Int) (hne:0 < zs.length) (hreach:zs.length*8≤140737488351232) (hb:b < n₀) (J Jx:List (Int × Int)→World→Prop)
  (hY:∀ pre x W,J pre W→pre.length < zs.length→YieldAt F (n - 1) Tryz.prog l #[.int .i64 x.1,.int .i64 x.2] W fun e W' =>
   (e=.returned (.bool true)∧J (pre++[x]) W'∧Kq n₀ Bs W W')∨(e=.returned (.bool false)∧Jx (pre++[x]) W'))
  (W:World) (hBs:W.cell? ⟨Bs,0,none⟩=some (.slice (some ⟨b,off,none⟩) zs.length cap)) (hc:∀ j,j < zs.length→W.cell? ⟨b,off+j,none⟩=some (.int .i64 (zs[j]?.getD 0))) (h0:J [] W) :
  CallsIn F n Tryz.prog 117 #[.func (.yield l) #[] #[],.pointer (some ⟨Bs,0,none⟩)] W fun e W'=>(∃ v,e=.returned v) ∧
   ((∃ ys,ys=ze8 (bk zs) zs.length∧J ys W')∨(∃ pre,(∃ k,k≤zs.length∧pre=ze8 (bk zs) k)∧Jx pre W')):=by
 refine callsIn_of_wp Tryz.func117 rfl h8 ?_ hro
 simp only[Tryz.ntmps117,List.size_toArray,List.length_cons,List.length_nil,Nat.reduceAdd,Nat.reduceSub,Array.replicate_succ,Array.replicate_zero,List.push_toArray,List.append_toArray,List.nil_append,List.cons_append]
 gi_wp2
 gi_loopw [3] (fun i wr=>∃ k:Nat,k≤zs.length∧i=.int .i64 ((zs.length:Int) - 1 - k)∧J (ze8 (bk zs) k) wr∧Kq n₀ Bs W wr)
  (fun i _=>(intOf i+1).toNat)
 case atStart=>exact⟨0,Nat.zero_le _,by simp,h0,Kq.refl _ _ _⟩
 case round =>
  obtain⟨k,hk,rfl,hJs,hnx⟩:=hrel
  have hBs':=hnx.cell.trans hBs
  have hcx:k < zs.length→wr.cell? ⟨b,off+(zs.length - 1 - k),none⟩=some (.int .i64 (zs[zs.length - 1 - k]?.getD 0)):=fun h=>(hnx.b.cell (p:=⟨b,off+(zs.length - 1 - k),none⟩) hb).trans (hc _ (by omega))
  by_cases hlt:k < zs.length
  ·obtain⟨fn,tmps,assign,body,hy,hR⟩:=hY _ (bk zs k) wr hJs (by rw[zox];exact hlt)
   dsimp only[bk] at hy
   have hcx':=hcx hlt
   gi_wp2
   refine hR.mono ?_
   rintro e W3 (⟨rfl,hJ3,hk3⟩ | ⟨rfl,hJx3⟩)
   ·-- the round goes on
    gi_wp2
    go_roundw
    case rel=>exact⟨k+1,by omega,by simp;omega,by rw[zim];exact hJ3,hnx.trans hk3⟩
    case measure=>simp[intOf];omega
   gi_wp2
   refine bodyPost_ret (results_none rfl _ _ _) rfl ?_
   exact⟨⟨_,rfl⟩,.inr ⟨_,⟨k+1,by omega,(zim _ _).symm⟩,hJx3⟩⟩
  obtain rfl:k=zs.length:=by omega
  gi_wp2
  go_end0
  exact⟨⟨_,rfl⟩,.inl ⟨_,rfl,hJs⟩⟩
set_option maxRecDepth 100000 in
theorem zue (F:Fence) (n:Nat) (h8:F.fn 117) (hro:F.round=none) (l Bs:Nat) (A:Option Addr) (cap:Nat) (J:List (Int × Int)→World→Prop) (W:World) (hBs:W.cell? ⟨Bs,0,none⟩=some (.slice A 0 cap)) (h0:J [] W) :
  CallsIn F n Tryz.prog 117 #[.func (.yield l) #[] #[],.pointer (some ⟨Bs,0,none⟩)] W fun e W'=>(∃ v,e=.returned v)∧J [] W':=by
 refine callsIn_of_wp Tryz.func117 rfl h8 ?_ hro
 simp only[Tryz.ntmps117,List.size_toArray,List.length_cons,List.length_nil,Nat.reduceAdd,Nat.reduceSub,Array.replicate_succ,Array.replicate_zero,List.push_toArray,List.append_toArray,List.nil_append,List.cons_append]
 gi_wp2
 gi_loopw [3] (fun i wr=>i=.int .i64 (-1)∧J [] wr) (fun _ _=>0)
 case atStart=>exact⟨rfl,h0⟩
 case round =>
  obtain⟨rfl,hJs⟩:=hrel
  gi_wp2
  go_end0
  exact⟨⟨_,rfl⟩,hJs⟩
set_option maxHeartbeats 1000000 in
theorem zjD (F:Fence) (n:Nat) (h5:F.fn 75) (hro:F.round=none) (a:Option Addr) (len cap:Nat) (w:World) :
  CallsIn F n Tryz.prog 75 #[.slice a len cap] w fun e w'=>e=.returned (.func (.func 117) #[] #[.pointer (some ⟨w.heap.size,0,none⟩)])∧w'=w.alloc (.cells #[.slice a len cap] 39):=by
 refine callsIn_of_wp Tryz.func75 rfl h5 ?_ hro
 simp only[Tryz.ntmps75,List.size_toArray,List.length_cons,List.length_nil,Nat.reduceAdd,Nat.reduceSub,Array.replicate_succ,Array.replicate_zero,List.push_toArray,List.append_toArray,List.nil_append,List.cons_append]
 gi_wp2
 go_ret
 exact⟨rfl,rfl⟩
def Ints (n₀:Nat) (W:World) (sv:Value) (zs:List Int):Prop :=
 (∃ A cap,sv=.slice A 0 cap∧zs=[])∨(0 < zs.length∧∃ b off cap,sv=.slice (some ⟨b,off,none⟩) zs.length cap∧b < n₀∧∀ j,j < zs.length→W.cell? ⟨b,off+j,none⟩=some (.int .i64 (zs[j]?.getD 0)))
theorem Ints.below {n₀:Nat} {A B:World} (h:Below n₀ A B) {sv:Value} {zs:List Int}:Ints n₀ A sv zs→Ints n₀ B sv zs
 | .inl e=>.inl e
 | .inr ⟨h0,b,off,cap,e,hb,hc⟩=>.inr ⟨h0,b,off,cap,e,hb,fun j hj=>(h.cell (p:=⟨b,off+j,none⟩) hb).trans (hc j hj)⟩
theorem zkv (F:Fence) (n:Nat) (h8:F.fn 117) (hro:F.round=none) (hn:1≤n) (Bs n₀:Nat) (sv:Value) (zs:List Int) (hreach:zs.length*8≤140737488351232) (w:World) (hBs:Bs < w.heap.size) (hn₀:n₀≤w.heap.size)
  (hc:w.cell? ⟨Bs,0,none⟩=some sv) (hI:Ints n₀ w sv zs) :
  SeqStopsK F n Tryz.prog 117 #[.pointer (some ⟨Bs,0,none⟩)] (fun x:Int × Int=>#[Value.int .i64 x.1,Value.int .i64 x.2]) (Kq n₀ Bs) (fun ys=>ys=ze8 (bk zs) zs.length)
   (fun pre=>∃ k,k≤zs.length∧pre=ze8 (bk zs) k) zs.length w:=fun l J Jx W hW _ _ hY h0=>by
 have hc':=(hW.cell (p:=⟨Bs,0,none⟩) hBs).trans hc
 rcases hI.below (hW.mono hn₀) with⟨A,cap,rfl,rfl⟩ | ⟨hp,b,off,cap,rfl,hb,hcs⟩
 ·exact (zue F n h8 hro l Bs A cap J W hc' h0).mono fun e W' ⟨he,hj⟩=>⟨he,.inl ⟨_,rfl,hj⟩⟩
 exact ztW F n h8 hro hn l Bs n₀ b off cap zs hp hreach hb J Jx hY W hc' hcs h0
end Go.Proofs.YtfbcnpbhhooapaaGreatDoor.Bk
namespace Go.Proofs.YtfbcnpbhhooapaaGreatDoor.Bk
open Go Go.RowKit Go.Shelf
attribute [local go_sem] Oper.semAt_some
def run (o:Int→Int):Int→List Int→Int
 | f,[]=>f
 | f,k::ks=>if k < 0∨k≠f - 1 then -1 else if o k < 0 then -1 else run o (o k) ks
theorem zfV (zs:List Int):∀ k,k≤zs.length→(ze8 (bk zs) k).map (·.2)=zs.reverse.take k
 | 0,_=>by simp[ze8]
 | k+1,h=>by
  rw[zim,List.map_append,zfV zs k (by omega),List.take_add_one,List.getElem?_reverse (by omega)]
  have:zs.length - 1 - k < zs.length:=by omega
  simp[bk,this]
theorem zjs {W W':World} (h:Below W.heap.size W W'):KeepsOthers W W':=⟨h.size,fun j o hj _=>by
 rw[h.block j (Array.getElem?_eq_some_iff.1 hj).1];exact hj⟩
structure Bx (w:World) (lv r:Value) (nd:Array Value) (W:World):Prop where
 below:Below w.heap.size w W
 size:w.heap.size+3≤W.heap.size
 h2:W.heap[w.heap.size]?=some (.cells #[lv] 35 (0,0))
 h4:W.heap[w.heap.size+1]?=some (.cells #[r] 3 (0,0))
 h5:W.heap[w.heap.size+2]?=some (.cells nd 41 (0,0))
theorem Bx.on {w:World} {lv r:Value} {nd:Array Value} {W W':World} (h:Bx w lv r nd W) (hb:Below (w.heap.size+3) W W'):Bx w lv r nd W' :=
 ⟨h.below.trans (hb.mono (by omega)),Nat.le_trans h.size hb.size,(hb.block _ (by omega)).trans h.h2,(hb.block _ (by omega)).trans h.h4,(hb.block _ (by omega)).trans h.h5⟩
theorem Bx.c2 {w:World} {lv r:Value} {nd:Array Value} {W:World} (h:Bx w lv r nd W):W.cell? ⟨w.heap.size,0,none⟩=some lv:=by simp[World.cell?,h.h2]
theorem Bx.c4 {w:World} {lv r:Value} {nd:Array Value} {W:World} (h:Bx w lv r nd W):W.cell? ⟨w.heap.size+1,0,none⟩=some r:=by simp[World.cell?,h.h4]
theorem Bx.f4 {w:World} {lv r:Value} {nd:Array Value} {W:World} (h:Bx w lv r nd W):W.frozen? ⟨w.heap.size+1,0,none⟩=false:=by simp[World.frozen?,h.h4]
theorem Bx.c5 {w:World} {lv r:Value} {nd:Array Value} {W:World} (h:Bx w lv r nd W) (j:Nat):W.cell? ⟨w.heap.size+2,j,none⟩=nd[j]?:=by simp[World.cell?,h.h5]
theorem Bx.new (w:World) (lv r:Value) (nd:Array Value):Bx w lv r nd (((w.alloc (.cells #[lv] 35)).alloc (.cells #[r] 3)).alloc (.cells nd 41)):=by
 refine⟨(((Below.refl _ w).alloc (Nat.le_refl _) _).alloc (by simp) _).alloc (by simp;omega) _,by simp,?_,?_,?_⟩
 ·exact (Below.heap_alloc _ _ _ (by simp;omega)).trans ((Below.heap_alloc _ _ _ (by simp)).trans (World.alloc_heap_new w _))
 ·refine (Below.heap_alloc _ _ _ (by simp)).trans ?_
  have:=World.alloc_heap_new (w.alloc (.cells #[lv] 35)) (.cells #[r] 3)
  rwa [World.size_alloc] at this
 have:=World.alloc_heap_new ((w.alloc (.cells #[lv] 35)).alloc (.cells #[r] 3)) (.cells nd 41)
 rwa [World.size_alloc,World.size_alloc] at this
structure Ls (w:World) (bf:Nat) (lv sv:Value) (r f:Int) (W:World):Prop where
 below:Below w.heap.size w W
 lt:w.heap.size+2 < bf
 l:Boxed W w.heap.size 35 lv
 r:Boxed W (w.heap.size+1) 3 (.int .i64 r)
 f:Boxed W bf 3 (.int .i64 f)
 s:Boxed W (bf+1) 39 sv
theorem Ls.own {w:World} {bf:Nat} {lv sv:Value} {r f:Int} {W W':World} {B:Nat} {row:Option Nat} (h:Ls w bf lv sv r f W) (hB:w.heap.size≤B) (hg:W.grownBy W' row) (hr:∀ r,row=some r→B≤r∧∃ o:Obj,W.heap[r]?=some o∧o.isCells=false):Ls w bf lv sv r f W':=by
 have hb:∀ (B:Nat) (t:TypeId) (v:Value),Boxed W B t v→Boxed W' B t v:=fun B t v h=>h.kept hg (fun e=>by
  obtain⟨_,o,ho,hc⟩:=hr B e.symm
  rw[show W.heap[B]?=_ from h] at ho;cases ho;cases hc)
 exact⟨h.below.grown hg h.below.size (fun k e=>Nat.le_trans hB (hr k e).1),h.lt,hb _ _ _ h.l,hb _ _ _ h.r,hb _ _ _ h.f,hb _ _ _ h.s⟩
theorem Ls.setR {w:World} {bf:Nat} {lv sv:Value} {r f:Int} {W:World} (h:Ls w bf lv sv r f W) (r':Int):Ls w bf lv sv r' f (W.setCell ⟨w.heap.size+1,0,none⟩ (.int .i64 r')) :=
 have hl:=h.lt
 ⟨h.below.setCell (p:=⟨w.heap.size+1,0,none⟩) (by simp) _,h.lt,h.l.other (by omega) _,h.r.set _,h.f.other (by omega) _,h.s.other (by omega) _⟩
theorem Ls.setF {w:World} {bf:Nat} {lv sv:Value} {r f:Int} {W:World} (h:Ls w bf lv sv r f W) (f':Int):Ls w bf lv sv r f' (W.setCell ⟨bf,0,none⟩ (.int .i64 f')) :=
 have hl:=h.lt
 ⟨h.below.setCell (p:=⟨bf,0,none⟩) (by simp;omega) _,h.lt,h.l.other (by omega) _,h.r.other (by omega) _,h.f.set _,h.s.other (by omega) _⟩
theorem Ls.on {w:World} {bf:Nat} {lv sv:Value} {r f:Int} {W W':World} (h:Ls w bf lv sv r f W) (hb:Below W.heap.size W W'):Ls w bf lv sv r f W' :=
 have k:∀ (B:Nat) (t:TypeId) (v:Value),Boxed W B t v→Boxed W' B t v:=fun B t v h=>(hb.block B h.lt).trans h
 ⟨h.below.trans (hb.mono h.below.size),h.lt,k _ _ _ h.l,k _ _ _ h.r,k _ _ _ h.f,k _ _ _ h.s⟩
theorem Ls.kq {w:World} {bf:Nat} {lv sv:Value} {r f r' f':Int} {W W':World} (h:Ls w bf lv sv r f W) (h':Ls w bf lv sv r' f' W') (hb:Below w.heap.size W W'):Kq w.heap.size (bf+1) W W':=⟨hb,(show W'.heap[bf+1]?=_ from h'.s).trans (show W.heap[bf+1]?=_ from h.s).symm⟩
def LI (w:World) (bf:Nat) (lv sv:Value) (o:Int→Int) (e:Nat) (pre:List (Int × Int)) (W:World):Prop:=∃ f:Int,Ls w bf lv sv 0 f W∧0≤f∧f≤e∧∀ rest,run o e (pre.map (·.2)++rest)=run o f rest
def LX (w:World) (bf:Nat) (lv sv:Value) (o:Int→Int) (e:Nat) (c:Code) (pre:List (Int × Int)) (W:World):Prop:=∃ f:Int,Ls w bf lv sv (-1) f W∧c=.ret∧∀ rest,run o e (pre.map (·.2)++rest)=-1
theorem LI.own {w:World} {bf:Nat} {lv sv:Value} {o:Int→Int} {e B:Nat} (hB:w.heap.size≤B):OwnFrom B (LI w bf lv sv o e):=fun s W W' row ⟨f,h1,h2⟩ hg hr=>⟨f,h1.own hB hg hr,h2⟩
theorem LX.own {w:World} {bf:Nat} {lv sv:Value} {o:Int→Int} {e B:Nat} (hB:w.heap.size≤B) (c:Code):OwnFrom B (LX w bf lv sv o e c):=fun s W W' row ⟨f,h1,h2⟩ hg hr=>⟨f,h1.own hB hg hr,h2⟩
set_option maxRecDepth 100000 in
theorem begin_in (w:World) (bl ol ln cp e:Nat) (kind num:Int) (text:ByteArray) (A3 A4:Option Addr) (l3 c3 l4 c4:Nat) (ks:List Int) (kk:Int) (pp:Bool) (o:Int→Int) (res:Int)
  (hbl:bl < w.heap.size) (he:e < ln) (hln:ln≤1000000000) (hlc:ln≤cp)
  (q0:w.cell? ⟨bl,ol+e*5,none⟩=some (.int .i64 kind)) (q1:w.cell? ⟨bl,ol+e*5+1,none⟩=some (.int .i64 num)) (q2:w.cell? ⟨bl,ol+e*5+2,none⟩=some (.string text)) (q3:w.cell? ⟨bl,ol+e*5+3,none⟩=some (.slice A3 l3 c3)) (q4:w.cell? ⟨bl,ol+e*5+4,none⟩=some (.slice A4 l4 c4))
  (hl4:l4=ks.length) (hks:Ints w.heap.size w (.slice A4 l4 c4) ks) (hreach:ks.length≤1000000000)
  (hK:∀ W,Below w.heap.size w W→Calls Tryz.prog 73 #[.int .i64 kind] W fun x W'=>x=.returned (.int .i64 kk)∧Below W.heap.size W W')
  (hP:(kk=ks.length∨kk=-1)→∀ W,Below w.heap.size w W→Calls Tryz.prog 74 #[.agg #[.int .i64 kind,.int .i64 num,.string text,.slice A3 l3 c3,.slice A4 l4 c4]] W fun x W'=>x=.returned (.bool pp)∧Below W.heap.size W W')
  (hB:(kk=ks.length∨kk=-1)→pp=true→∀ k:Int,0≤k→k < e→o k≤k∧∀ W,Below w.heap.size w W→Calls Tryz.prog 47 #[.slice (some ⟨bl,ol,none⟩) ln cp,.int .i64 k] W fun x W'=>x=.returned (.int .i64 (o k))∧Below W.heap.size W W')
  (hr:res=if (kk≠ks.length∧kk≠-1)∨pp=false then -1 else run o e ks.reverse) :
  Calls Tryz.prog 47 #[.slice (some ⟨bl,ol,none⟩) ln cp,.int .i64 (e:Int)] w fun x w' =>
   x=.returned (.int .i64 res)∧Below w.heap.size w w':=by
 subst hl4
 refine (callsIn_wide (n:=9)).1 ?_
 refine callsIn_of_wp_marks Tryz.func47 rfl trivial ?_ rfl
 simp only[Tryz.ntmps47,List.size_toArray,List.length_cons,List.length_nil,Nat.reduceAdd,Nat.reduceSub,Array.replicate_succ,Array.replicate_zero,List.push_toArray,List.append_toArray,List.nil_append,List.cons_append]
 gi_wp2
 refine⟨trivial,?_⟩
 have hx0:=Bx.new w (.slice (some ⟨bl,ol,none⟩) ln cp) (.int .i64 0) #[.int .i64 kind,.int .i64 num,.string text,.slice A3 l3 c3,.slice A4 ks.length c4]
 refine (callsIn_wide.2 (hK _ hx0.below)).mono ?_
 rintro x w1 ⟨rfl,hb1⟩
 have hx1:=hx0.on (hb1.mono (by simp))
 have a2:=hx1.c2
 have a4:=hx1.c4
 have f4:=hx1.f4
 have a50:=hx1.c5 0
 have a51:=hx1.c5 1
 have a52:=hx1.c5 2
 have a53:=hx1.c5 3
 have a54:=hx1.c5 4
 simp only[List.getElem?_toArray,List.getElem?_cons_zero,List.getElem?_cons_succ] at a50 a51 a52 a53 a54
 gi_wp2
 ·refine⟨trivial,?_⟩
  refine ((callsIn_wide (n:=8)).2 (hP (.inl (by assumption)) w1 hx1.below)).mono ?_
  rintro x w2 ⟨rfl,hb2⟩
  have hx2:=hx1.on (hb2.mono hx1.size)
  have d2:=hx2.c2
  have d4:=hx2.c4
  have g4:=hx2.f4
  have d54:=hx2.c5 4
  simp only[List.getElem?_toArray,List.getElem?_cons_zero,List.getElem?_cons_succ] at d54
  cases pp with
  | false =>
   gi_wp2
   have hb4:Boxed w2 (w.heap.size+1) 3 (.int .i64 0):=hx2.h4
   have hc5:=(hb4.set (.int .i64 (-1))).cell
   refine⟨.int .i64 (-1),?_,by rw[hr];simp,hx2.below.setCell (p:=⟨w.heap.size+1,0,none⟩) (by simp) _⟩
   simp[results,Tryz.f47,go_sem,hc5]
  | true =>
   have hx3:=hx2.on (((Below.refl _ w2).alloc hx2.size (.cells #[.int .i64 (e:Int)] 3)))
   have hz:w.heap.size+1+1 < w2.heap.size:=by have:=hx2.size;omega
   have e54:=hx3.c5 4
   simp only[List.getElem?_toArray,List.getElem?_cons_zero,List.getElem?_cons_succ] at e54
   gi_wp2
   refine⟨trivial,?_⟩
   refine (zjD Fence.wide 8 trivial rfl A4 ks.length c4 _).mono ?_
   rintro x w4 ⟨rfl,rfl⟩
   gi_wp2
   have hW2:=hx2.below.size
   have hz2:=hx2.size
   obtain⟨W0,hW0⟩:∃ W0,(w2.alloc (.cells #[.int .i64 (e:Int)] 3)).alloc (.cells #[.slice A4 ks.length c4] 39)=W0:=⟨_,rfl⟩
   have hs0:W0.heap.size=w2.heap.size+2:=by rw[←hW0];simp
   have hK0:Boxed W0 (w2.heap.size+1) 39 (.slice A4 ks.length c4):=by
    rw[←hW0]
    have:=Boxed.new (w2.alloc (.cells #[.int .i64 (e:Int)] 3)) 39 (.slice A4 ks.length c4)
    rwa [World.size_alloc] at this
   have hF0:Boxed W0 w2.heap.size 3 (.int .i64 (e:Int)):=by
    rw[←hW0]
    exact (Boxed.new w2 3 (.int .i64 (e:Int))).alloc _
   have hb0:Below w2.heap.size w2 W0:=by
    rw[←hW0]
    exact ((Below.refl _ w2).alloc (Nat.le_refl _) _).alloc (by simp) _
   have hx4:=hx2.on (hb0.mono hz2)
   have hL0:Ls w w2.heap.size (.slice (some ⟨bl,ol,none⟩) ln cp) (.slice A4 ks.length c4) 0 e W0:=⟨hx4.below,by omega,hx4.h2,hx4.h4,hF0,hK0⟩
   rw[hW0]
   refine wpIn_rangeFunc_ownG (w0:=W0) rfl (by decide) (gf:=117) (lb:=#[.pointer (some ⟨w2.heap.size+1,0,none⟩)]) rfl trivial (enters_of Tryz.func117 (by kernel_rfl) rfl)
    (zkv Fence.wide 8 trivial rfl (by decide) (w2.heap.size+1) w.heap.size _ ks (by omega) W0 (by omega) (by omega) hK0.cell (hks.below hx4.below)) (fun h k=>Kq.trans h k) (fun W l o o'=>Kq.put (by omega) (by omega) W l o o') (Below.refl _ _) (fun _=>rfl)
    (LI w w2.heap.size (.slice (some ⟨bl,ol,none⟩) ln cp) (.slice A4 ks.length c4) o e)
    (LX w w2.heap.size (.slice (some ⟨bl,ol,none⟩) ln cp) (.slice A4 ks.length c4) o e)
    (LI.own (by omega)) (LX.own (by omega)) ⟨e,hL0,by omega,by omega,fun rest=>rfl⟩ ?a1 ?assign ?body ?done ?stop
   case assign =>
    intro l x W K hK
    gi_wp2
    exact hK
   case body =>
    rintro l pre ⟨x1,x2⟩ W ⟨f,hL,hf0,hfe,hrun⟩ _
    have b2:=hL.l.cell
    have b4:=hL.r.cell
    have b4f:=hL.r.frozen
    have b7:=hL.f.cell
    have b7f:=hL.f.frozen
    have stop:(x2 < 0∨x2≠f - 1)→∀ rest,run o e ((pre++[(x1,x2)]).map (·.2)++rest)=-1:=fun h rest=>by
     rw[List.map_append,List.append_assoc,hrun]
     simp only[List.map_cons,List.map_nil,List.cons_append,List.nil_append,run]
     rw[if_pos h]
    gi_wp2
    ·have hq:x2 < 0∨(x2 != f - 1)=true:=by assumption
     exact⟨(KeepsOthers.setCell _ _ _).from _,f,hL.setR _,rfl,stop (by simpa using hq)⟩
    ·have hq:0≤x2∧(x2 != f - 1)=false:=by assumption
     have hx:x2=f - 1:=by simpa using hq.2
     have h0:0≤x2:=hq.1
     clear hq
     subst hx
     obtain⟨ho,hc⟩:=hB (.inl (by assumption)) (by trivial) (f - 1) h0 (by omega)
     refine⟨trivial,?_⟩
     refine (CallsIn.inRound l ((callsIn_wide (n:=6)).2 (hc W hL.below))).mono ?_
     rintro y W5 ⟨rfl,hb5⟩
     have hL5:=hL.on hb5
     have hL6:=hL5.setF (o (f - 1))
     have c7:=hL5.f.cell
     have c7f:=hL5.f.frozen
     have c8:=hL6.f.cell
     have c4:=hL6.r.cell
     have c45:=hL5.r.cell
     have c4g:=hL5.r.frozen
     have c4f:=hL6.r.frozen
     have go:∀ rest,run o e ((pre++[(x1,f - 1)]).map (·.2)++rest)=if o (f - 1) < 0 then -1 else run o (o (f - 1)) rest:=fun rest=>by
      rw[List.map_append,List.append_assoc,hrun]
      simp only[List.map_cons,List.map_nil,List.cons_append,List.nil_append,run]
      rw[if_neg (by omega)]
     have keep:KeepsOthers W (W5.setCell ⟨w2.heap.size,0,none⟩ (.int .i64 (o (f - 1)))):=(zjs hb5).trans (KeepsOthers.setCell _ _ _)
     have bel:Below w.heap.size W (W5.setCell ⟨w2.heap.size,0,none⟩ (.int .i64 (o (f - 1)))):=(hb5.mono hL.below.size).setCell (p:=⟨w2.heap.size,0,none⟩) (by simp;omega) _
     gi_wp2
     ·have hn:o (f - 1) < 0:=by assumption
      exact⟨(keep.trans (KeepsOthers.setCell _ _ _)).from _,_,hL6.setR _,rfl,fun rest=>by rw[go,if_pos hn]⟩
     have hn:0≤o (f - 1):=by assumption
     exact⟨keep.from _,hL.kq hL6 bel,_,hL6,hn,by omega,fun rest=>by rw[go,if_neg (by omega)]⟩
    exact⟨(KeepsOthers.setCell _ _ _).from _,f,hL.setR _,rfl,stop (.inl (by assumption))⟩
   case done =>
    rintro D ys W hD rfl ⟨f,hL,hf0,hfe,hrun⟩ hK
    have b4:=hL.r.cell
    have b4f:=hL.r.frozen
    have b7:=hL.f.cell
    have hL6:=hL.setR f
    have hres:run o e ks.reverse=f:=by
     have:=hrun []
     rw[zfV ks ks.length (Nat.le_refl _),List.append_nil,List.take_of_length_le (by simp)] at this
     exact this
    gi_wp2
    have hK':=(KeepsOthers.setCell W ⟨w.heap.size+1,0,none⟩ (.int .i64 f)).same D _ hK rfl
    refine⟨by simp,.inl ⟨_,_,rfl,run_takeDeferred hK',?_⟩⟩
    have hc5:=cell_kept hL6.r.cell (grownBy_putObj' _ D (.deferred none)) (fun r e=>by cases e;exact⟨_,hK',rfl⟩)
    have e0:res=f:=by
     rw[hr,if_neg,hres]
     rintro (h | h)
     ·rcases (show kk=ks.length∨kk=-1 from (.inl (by assumption))) with e | e
      ·exact h.1 e
      exact h.2 e
     cases h
    refine⟨.int .i64 f,?_,by rw[e0],hL6.below.trans (belowK_b (w:=w) (Nat.le_refl _) _ D _ _ (by omega) hK' rfl rfl)⟩
    simp[results,Tryz.f47,go_sem,hc5]
   case stop =>
    rintro D c pre W hD ⟨k,hk,rfl⟩ ⟨f,hL,rfl,hrun⟩ hK
    have hres:run o e ks.reverse=-1:=by
     have:=hrun (ks.reverse.drop k)
     rw[zfV ks k hk,List.take_append_drop] at this
     exact this
    gi_wp2
    refine⟨by simp,.inl ⟨_,_,rfl,run_takeDeferred hK,?_⟩⟩
    have hc5:=cell_kept hL.r.cell (grownBy_putObj' _ D (.deferred none)) (fun r e=>by cases e;exact⟨_,hK,rfl⟩)
    have e0:res=-1:=by
     rw[hr,hres]
     split <;> rfl
    refine⟨.int .i64 (-1),?_,by rw[e0],hL.below.trans (belowK_b (w:=w) (Nat.le_refl _) _ D _ _ (by omega) hK rfl rfl)⟩
    simp[results,Tryz.f47,go_sem,hc5]
 ·refine⟨trivial,?_⟩
  refine ((callsIn_wide (n:=8)).2 (hP (.inr (by assumption)) w1 hx1.below)).mono ?_
  rintro x w2 ⟨rfl,hb2⟩
  have hx2:=hx1.on (hb2.mono hx1.size)
  have d2:=hx2.c2
  have d4:=hx2.c4
  have g4:=hx2.f4
  have d54:=hx2.c5 4
  simp only[List.getElem?_toArray,List.getElem?_cons_zero,List.getElem?_cons_succ] at d54
  cases pp with
  | false =>
   gi_wp2
   have hb4:Boxed w2 (w.heap.size+1) 3 (.int .i64 0):=hx2.h4
   have hc5:=(hb4.set (.int .i64 (-1))).cell
   refine⟨.int .i64 (-1),?_,by rw[hr];simp,hx2.below.setCell (p:=⟨w.heap.size+1,0,none⟩) (by simp) _⟩
   simp[results,Tryz.f47,go_sem,hc5]
  | true =>
   have hx3:=hx2.on (((Below.refl _ w2).alloc hx2.size (.cells #[.int .i64 (e:Int)] 3)))
   have hz:w.heap.size+1+1 < w2.heap.size:=by have:=hx2.size;omega
   have e54:=hx3.c5 4
   simp only[List.getElem?_toArray,List.getElem?_cons_zero,List.getElem?_cons_succ] at e54
   gi_wp2
   refine⟨trivial,?_⟩
   refine (zjD Fence.wide 8 trivial rfl A4 ks.length c4 _).mono ?_
   rintro x w4 ⟨rfl,rfl⟩
   gi_wp2
   have hW2:=hx2.below.size
   have hz2:=hx2.size
   obtain⟨W0,hW0⟩:∃ W0,(w2.alloc (.cells #[.int .i64 (e:Int)] 3)).alloc (.cells #[.slice A4 ks.length c4] 39)=W0:=⟨_,rfl⟩
   have hs0:W0.heap.size=w2.heap.size+2:=by rw[←hW0];simp
   have hK0:Boxed W0 (w2.heap.size+1) 39 (.slice A4 ks.length c4):=by
    rw[←hW0]
    have:=Boxed.new (w2.alloc (.cells #[.int .i64 (e:Int)] 3)) 39 (.slice A4 ks.length c4)
    rwa [World.size_alloc] at this
   have hF0:Boxed W0 w2.heap.size 3 (.int .i64 (e:Int)):=by
    rw[←hW0]
    exact (Boxed.new w2 3 (.int .i64 (e:Int))).alloc _
   have hb0:Below w2.heap.size w2 W0:=by
    rw[←hW0]
    exact ((Below.refl _ w2).alloc (Nat.le_refl _) _).alloc (by simp) _
   have hx4:=hx2.on (hb0.mono hz2)
   have hL0:Ls w w2.heap.size (.slice (some ⟨bl,ol,none⟩) ln cp) (.slice A4 ks.length c4) 0 e W0:=⟨hx4.below,by omega,hx4.h2,hx4.h4,hF0,hK0⟩
   rw[hW0]
   refine wpIn_rangeFunc_ownG (w0:=W0) rfl (by decide) (gf:=117) (lb:=#[.pointer (some ⟨w2.heap.size+1,0,none⟩)]) rfl trivial (enters_of Tryz.func117 (by kernel_rfl) rfl)
    (zkv Fence.wide 8 trivial rfl (by decide) (w2.heap.size+1) w.heap.size _ ks (by omega) W0 (by omega) (by omega) hK0.cell (hks.below hx4.below)) (fun h k=>Kq.trans h k) (fun W l o o'=>Kq.put (by omega) (by omega) W l o o') (Below.refl _ _) (fun _=>rfl)
    (LI w w2.heap.size (.slice (some ⟨bl,ol,none⟩) ln cp) (.slice A4 ks.length c4) o e)
    (LX w w2.heap.size (.slice (some ⟨bl,ol,none⟩) ln cp) (.slice A4 ks.length c4) o e)
    (LI.own (by omega)) (LX.own (by omega)) ⟨e,hL0,by omega,by omega,fun rest=>rfl⟩ ?a2 ?assign ?body ?done ?stop
   case assign =>
    intro l x W K hK
    gi_wp2
    exact hK
   case body =>
    rintro l pre ⟨x1,x2⟩ W ⟨f,hL,hf0,hfe,hrun⟩ _
    have b2:=hL.l.cell
    have b4:=hL.r.cell
    have b4f:=hL.r.frozen
    have b7:=hL.f.cell
    have b7f:=hL.f.frozen
    have stop:(x2 < 0∨x2≠f - 1)→∀ rest,run o e ((pre++[(x1,x2)]).map (·.2)++rest)=-1:=fun h rest=>by
     rw[List.map_append,List.append_assoc,hrun]
     simp only[List.map_cons,List.map_nil,List.cons_append,List.nil_append,run]
     rw[if_pos h]
    gi_wp2
    ·have hq:x2 < 0∨(x2 != f - 1)=true:=by assumption
     exact⟨(KeepsOthers.setCell _ _ _).from _,f,hL.setR _,rfl,stop (by simpa using hq)⟩
    ·have hq:0≤x2∧(x2 != f - 1)=false:=by assumption
     have hx:x2=f - 1:=by simpa using hq.2
     have h0:0≤x2:=hq.1
     clear hq
     subst hx
     obtain⟨ho,hc⟩:=hB (.inr (by assumption)) (by trivial) (f - 1) h0 (by omega)
     refine⟨trivial,?_⟩
     refine (CallsIn.inRound l ((callsIn_wide (n:=6)).2 (hc W hL.below))).mono ?_
     rintro y W5 ⟨rfl,hb5⟩
     have hL5:=hL.on hb5
     have hL6:=hL5.setF (o (f - 1))
     have c7:=hL5.f.cell
     have c7f:=hL5.f.frozen
     have c8:=hL6.f.cell
     have c4:=hL6.r.cell
     have c45:=hL5.r.cell
     have c4g:=hL5.r.frozen
     have c4f:=hL6.r.frozen
     have go:∀ rest,run o e ((pre++[(x1,f - 1)]).map (·.2)++rest)=if o (f - 1) < 0 then -1 else run o (o (f - 1)) rest:=fun rest=>by
      rw[List.map_append,List.append_assoc,hrun]
      simp only[List.map_cons,List.map_nil,List.cons_append,List.nil_append,run]
      rw[if_neg (by omega)]
     have keep:KeepsOthers W (W5.setCell ⟨w2.heap.size,0,none⟩ (.int .i64 (o (f - 1)))):=(zjs hb5).trans (KeepsOthers.setCell _ _ _)
     have bel:Below w.heap.size W (W5.setCell ⟨w2.heap.size,0,none⟩ (.int .i64 (o (f - 1)))):=(hb5.mono hL.below.size).setCell (p:=⟨w2.heap.size,0,none⟩) (by simp;omega) _
     gi_wp2
     ·have hn:o (f - 1) < 0:=by assumption
      exact⟨(keep.trans (KeepsOthers.setCell _ _ _)).from _,_,hL6.setR _,rfl,fun rest=>by rw[go,if_pos hn]⟩
     have hn:0≤o (f - 1):=by assumption
     exact⟨keep.from _,hL.kq hL6 bel,_,hL6,hn,by omega,fun rest=>by rw[go,if_neg (by omega)]⟩
    exact⟨(KeepsOthers.setCell _ _ _).from _,f,hL.setR _,rfl,stop (.inl (by assumption))⟩
   case done =>
    rintro D ys W hD rfl ⟨f,hL,hf0,hfe,hrun⟩ hK
    have b4:=hL.r.cell
    have b4f:=hL.r.frozen
    have b7:=hL.f.cell
    have hL6:=hL.setR f
    have hres:run o e ks.reverse=f:=by
     have:=hrun []
     rw[zfV ks ks.length (Nat.le_refl _),List.append_nil,List.take_of_length_le (by simp)] at this
     exact this
    gi_wp2
    have hK':=(KeepsOthers.setCell W ⟨w.heap.size+1,0,none⟩ (.int .i64 f)).same D _ hK rfl
    refine⟨by simp,.inl ⟨_,_,rfl,run_takeDeferred hK',?_⟩⟩
    have hc5:=cell_kept hL6.r.cell (grownBy_putObj' _ D (.deferred none)) (fun r e=>by cases e;exact⟨_,hK',rfl⟩)
    have e0:res=f:=by
     rw[hr,if_neg,hres]
     rintro (h | h)
     ·rcases (show kk=ks.length∨kk=-1 from (.inr (by assumption))) with e | e
      ·exact h.1 e
      exact h.2 e
     cases h
    refine⟨.int .i64 f,?_,by rw[e0],hL6.below.trans (belowK_b (w:=w) (Nat.le_refl _) _ D _ _ (by omega) hK' rfl rfl)⟩
    simp[results,Tryz.f47,go_sem,hc5]
   case stop =>
    rintro D c pre W hD ⟨k,hk,rfl⟩ ⟨f,hL,rfl,hrun⟩ hK
    have hres:run o e ks.reverse=-1:=by
     have:=hrun (ks.reverse.drop k)
     rw[zfV ks k hk,List.take_append_drop] at this
     exact this
    gi_wp2
    refine⟨by simp,.inl ⟨_,_,rfl,run_takeDeferred hK,?_⟩⟩
    have hc5:=cell_kept hL.r.cell (grownBy_putObj' _ D (.deferred none)) (fun r e=>by cases e;exact⟨_,hK,rfl⟩)
    have e0:res=-1:=by
     rw[hr,hres]
     split <;> rfl
    refine⟨.int .i64 (-1),?_,by rw[e0],hL.below.trans (belowK_b (w:=w) (Nat.le_refl _) _ D _ _ (by omega) hK rfl rfl)⟩
    simp[results,Tryz.f47,go_sem,hc5]
 refine⟨trivial,?_⟩
 gi_wp2
 have hb4:Boxed w1 (w.heap.size+1) 3 (.int .i64 0):=hx1.h4
 have hc5:=(hb4.set (.int .i64 (-1))).cell
 refine⟨.int .i64 (-1),?_,?_,hx1.below.setCell (p:=⟨w.heap.size+1,0,none⟩) (by simp) _⟩
 ·simp[results,Tryz.f47,go_sem,hc5]
 rw[hr,if_pos]
 exact .inl ⟨by assumption,by assumption⟩
end Go.Proofs.YtfbcnpbhhooapaaGreatDoor.Bk
