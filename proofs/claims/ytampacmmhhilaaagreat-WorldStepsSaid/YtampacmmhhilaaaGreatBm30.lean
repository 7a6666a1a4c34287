/- What a client's job answers, whatever kind it is of; rows of events. -/
import Derived.Test.YtampacmmhhilaaaGreatBm29

set_option linter.all false
namespace Go.Proofs.YtampacmmhhilaaaGreat

open Go.RowKit

theorem infoEv:(Tryz.prog.info? 50).map (fun i=> (i.zero,i.size,i.bytes))=some (some (.agg #[.int .i64 0, .int .i64 0, .int .i64 0, .int .i64 0, .int .i64 0, .int .i64 0, .int .i64 0, .int .i64 0]),8,64):=by kernel_rfl
theorem evNil (B:Nat) (w:World):w.ownsRow B 50 8 (.slice none 0 0) 0 []:=⟨by simp, .inl ⟨rfl,rfl⟩⟩
theorem evOne (e:Ev):∀ u ∈ e.cells.toList,u.oneCell'=true:=by
 intro u hu
 simp only [Ev.cells,List.mem_cons,List.not_mem_nil,or_false] at hu
 rcases hu with rfl | rfl | rfl | rfl | rfl | rfl | rfl | rfl <;> rfl
theorem evRd (e:Ev) (X:World):RdS (X.alloc (.cells e.cells 50)) 8 (.slice (some ⟨X.heap.size,0, .none⟩) 1 1) 1 e.cells.toList:=RdS.new (heap_alloc_new _ _) rfl (by decide)
theorem ownBel {w w':World} {B:Nat} {E:TypeId} {size:Nat} {v:Value} {n:Nat} {xs:List Value} (h:w.ownsRow B E size v n xs) (hb:Below w.heap.size w w'):w'.ownsRow B E size v n xs:=
 ownsRow_of_blocks h fun k hk=> hb.block k (h.lt k hk).2
theorem ownOn {w w':World} {B:Nat} {F:Nat→Prop} {E:TypeId} {size:Nat} {v:Value} {n:Nat} {xs:List Value} (h:w.ownsRow B E size v n xs) (ho:Only F w w') (hF:∀ b,B≤b→¬ F b):w'.ownsRow B E size v n xs:=
 ownsRow_of_blocks h fun k hk=> ho.block k (h.lt k hk).2 (hF k (h.lt k hk).1)
theorem RowAt.belB {B:Nat} {w w':World} {q:Nat} {cs:Array Value} {T:TypeId} (h:RowAt w q cs T) (hb:Below B w w') (hq:q < B):RowAt w' q cs T:=(hb.block q hq).trans h
theorem onBel {F:Nat→Prop} {w X Y:World} (h:Only F w X) (hb:Below w.heap.size X Y):Only F w Y:=
 ⟨hb.os.trans h.os,hb.tape.trans h.tape,hb.output.trans h.output,Nat.le_trans h.size hb.size,fun k hk hf=> (hb.block k hk).trans (h.block k hk hf)⟩
theorem belOn {B:Nat} {w w':World} (hb:Below B w w'):Only (fun b=> B≤b) w w':=⟨hb.os,hb.tape,hb.output,hb.size,fun k _ hf=> hb.block k (by omega)⟩
/-- An Adopter whose block is in F. -/
def AdO (F:Nat→Prop) (w:World) (q:Nat) (s:Sh) (a:Ad):Prop:=F q∧RowAt w q (adCells s a) 281
theorem AdO.only {F G:Nat→Prop} {w w':World} {q:Nat} {s:Sh} {a:Ad} (h:AdO F w q s a) (ho:Only G w w') (hd:∀ k,F k→¬ G k):AdO F w' q s a:=⟨h.1,h.2.only ho (hd q h.1)⟩
theorem AdO.below {F:Nat→Prop} {w w':World} {q:Nat} {s:Sh} {a:Ad} (h:AdO F w q s a) (hb:Below w.heap.size w w'):AdO F w' q s a:=⟨h.1,h.2.below hb⟩
theorem FeO.below {F:Nat→Prop} {w w':World} {q:Nat} {s:Sh} {t:Fe} (h:FeO F w q s t) (hb:Below w.heap.size w w'):FeO F w' q s t:=h.only (Only.of_below (F:=fun _=> False) hb) (fun _ _ e=> e)
theorem MalO.below {F:Nat→Prop} {w w':World} {q:Nat} {s:Sh} {cl:Int} {r:Rs} {c:Option Cm} (h:MalO F w q s cl r c) (hb:Below w.heap.size w w'):MalO F w' q s cl r c:=h.only (Only.of_below (F:=fun _=> False) hb) (fun _ _ e=> e)
/-- What tell comes to: the row of events, the client, its stack. -/
structure TellEnds (q sp:Nat) (s:Sh) (k:Kl) (d:Bool) (jv sl:Value) (most:Int) (fs:List Fr) (es:List Ev) (w w':World) (r:Ending):Prop where
 ret:∃ v,r= .returned v∧w'.ownsRow w.heap.size 50 8 v es.length (es.flatMap fun e=> e.cells.toList)
 row:RowAt w' q (klCells s k d (if d=true then .nilIface else jv) (.pointer (some ⟨sp,0, .none⟩))) 127
 stk:SK 0 w' sp (if d=true then .slice none 0 0 else sl) most (if d=true then [] else fs)
 only:Only (fun b=> b=q∨foot sp sl b) w w'
section

variable {G:Nat→Prop} {Y:World} {q1:Nat} {s:Sh}

theorem cGave_fre {f:Fe} (h:FeO G Y q1 s f):Calls Tryz.prog 286 #[.agg #[.pointer (some ⟨q1,0, .none⟩)]] Y fun e w'=> e= .returned (.bool f.gave)∧Below Y.heap.size Y w':=by
 obtain ⟨_,q2,h3,_⟩:=h
 exact jfgave_any q1 _ f.gave Y h3.row rfl
theorem cDone_fre {f:Fe} (h:FeO G Y q1 s f):Calls Tryz.prog 197 #[.pointer (some ⟨q1,0, .none⟩)] Y fun e w'=> e= .returned (.bool f.done)∧Below Y.heap.size Y w':=by
 obtain ⟨_,q2,h3,_⟩:=h
 exact (fedone_any q1 _ f.done Y h3.row rfl).mono (fun e w' h=> ⟨h.1,h.2 ▸ Below.refl _ _⟩)
theorem cTook_fre {f:Fe} (_h:FeO G Y q1 s f):Calls Tryz.prog 287 #[.agg #[.pointer (some ⟨q1,0, .none⟩)]] Y fun e w'=> e= .returned (gotV none)∧Below Y.heap.size Y w':=jftook_any _ Y
theorem cErr_fre {f:Fe} (h:FeO G Y q1 s f):Calls Tryz.prog 285 #[.agg #[.pointer (some ⟨q1,0, .none⟩)]] Y fun e w'=> e= .returned (.int .i64 (Jb.fre f).err)∧Below Y.heap.size Y w':=by
 obtain ⟨_,q2,h3,_⟩:=h
 exact jferr_any q1 _ f.gave Y h3.row rfl
theorem cGave_aga {t:Rr} (h:RrO G Y q1 s t):Calls Tryz.prog 292 #[.agg #[.pointer (some ⟨q1,0, .none⟩)]] Y fun e w'=> e= .returned (.bool (Jb.aga t).gave)∧Below Y.heap.size Y w':=jagave_any h
theorem cDone_aga {t:Rr} (h:RrO G Y q1 s t):Calls Tryz.prog 288 #[.pointer (some ⟨q1,0, .none⟩)] Y fun e w'=> e= .returned (.bool t.done)∧Below Y.heap.size Y w':=by
 obtain ⟨_,_,_,_,_,_,_,_,_,_,hrow,_⟩:=h
 exact (rrdone_any q1 _ t.done Y hrow rfl).mono (fun e w' h=> ⟨h.1,h.2 ▸ Below.refl _ _⟩)
theorem cTook_aga {t:Rr} (hd:t.done=true→t.err=0→∃ r,t.res=some r) (h:RrO G Y q1 s t):Calls Tryz.prog 293 #[.agg #[.pointer (some ⟨q1,0, .none⟩)]] Y fun e w'=> e= .returned (gotV (Jb.aga t).took)∧Below Y.heap.size Y w':=jatook_any h hd
theorem cErr_aga {t:Rr} (h:RrO G Y q1 s t):Calls Tryz.prog 291 #[.agg #[.pointer (some ⟨q1,0, .none⟩)]] Y fun e w'=> e= .returned (.int .i64 (Jb.aga t).err)∧Below Y.heap.size Y w':=by
 obtain ⟨_,_,_,_,_,_,_,_,_,_,hrow,_⟩:=h
 exact jaerr_any q1 s t _ _ _ _ Y hrow
theorem cGave_mal {cl:Int} {r:Rs} {c:Option Cm} (_h:MalO G Y q1 s cl r c):Calls Tryz.prog 256 #[.pointer (some ⟨q1,0, .none⟩)] Y fun e w'=> e= .returned (.bool false)∧Below Y.heap.size Y w':=(malgave_any _ Y).mono (fun e w' h=> ⟨h.1,h.2 ▸ Below.refl _ _⟩)
theorem cDone_mal {cl:Int} {r:Rs} {c:Option Cm} (h:MalO G Y q1 s cl r c):Calls Tryz.prog 253 #[.pointer (some ⟨q1,0, .none⟩)] Y fun e w'=> e= .returned (.bool (Jb.mal r c).done)∧Below Y.heap.size Y w':=maldone_any h
theorem cTook_mal {cl:Int} {r:Rs} {c:Option Cm} (h:MalO G Y q1 s cl r c):Calls Tryz.prog 257 #[.pointer (some ⟨q1,0, .none⟩)] Y fun e w'=> e= .returned (gotV (Jb.mal r c).took)∧Below Y.heap.size Y w':=maltook_any h
theorem cErr_mal {cl:Int} {r:Rs} {c:Option Cm} (h:MalO G Y q1 s cl r c):Calls Tryz.prog 255 #[.pointer (some ⟨q1,0, .none⟩)] Y fun e w'=> e= .returned (.int .i64 (Jb.mal r c).err)∧Below Y.heap.size Y w':=malerr_any h
theorem cGave_hei {a:Ad} (_h:AdO G Y q1 s a):Calls Tryz.prog 308 #[.agg #[.pointer (some ⟨q1,0, .none⟩)]] Y fun e w'=> e= .returned (.bool false)∧Below Y.heap.size Y w':=jhgave_any _ Y
theorem cDone_hei {a:Ad} (h:AdO G Y q1 s a):Calls Tryz.prog 297 #[.pointer (some ⟨q1,0, .none⟩)] Y fun e w'=> e= .returned (.bool a.done)∧Below Y.heap.size Y w':=(addone_any q1 _ a.done Y h.2 rfl).mono (fun e w' h=> ⟨h.1,h.2 ▸ Below.refl _ _⟩)
theorem cTook_hei {a:Ad} (_h:AdO G Y q1 s a):Calls Tryz.prog 309 #[.agg #[.pointer (some ⟨q1,0, .none⟩)]] Y fun e w'=> e= .returned (gotV none)∧Below Y.heap.size Y w':=jhtook_any _ Y
theorem cErr_hei {a:Ad} (h:AdO G Y q1 s a):Calls Tryz.prog 307 #[.agg #[.pointer (some ⟨q1,0, .none⟩)]] Y fun e w'=> e= .returned (.int .i64 a.err)∧Below Y.heap.size Y w':=jherr_any q1 s a Y h.2
end

end Go.Proofs.YtampacmmhhilaaaGreat
