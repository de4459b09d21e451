/- Joined texts: TabP, SearchP, SearchQ. -/
import Derived.Test.YtkldoojonnkfgaaGreatDoorB01
namespace Go.Proofs.YtkldoojonnkfgaaGreatDoor
open Go.RowKit Go.Sort
structure Rule where
 text:List UInt8
 bits:List UInt8
 mask:Nat
 val:Nat
 mn:List UInt8
 args:List (List UInt8)
 alias:Bool
deriving DecidableEq
structure Ent where
 page:Nat
 op:Nat
 mn:List UInt8
 args:List Op3
 extra:List UInt8
 alias:Bool
deriving DecidableEq
def mainR:List Rule:=[
 ⟨[48,48,48,48,48,48,48,48,32,78,79,80],[48,48,48,48,48,48,48,48],255,0,[78,79,80],[],false⟩,
 ⟨[48,48,48,48,49,48,48,48,32,69,88,32,65,70,44,65,70,39],[48,48,48,48,49,48,48,48],255,8,[69,88],[[65,70],[65,70,39]],false⟩,
 ⟨[48,48,48,49,48,48,48,48,32,68,74,78,90,32,101],[48,48,48,49,48,48,48,48],255,16,[68,74,78,90],[[101]],false⟩,
 ⟨[48,48,48,49,49,48,48,48,32,74,82,32,101],[48,48,48,49,49,48,48,48],255,24,[74,82],[[101]],false⟩,
 ⟨[48,48,49,107,107,48,48,48,32,74,82,32,107,44,101],[48,48,49,107,107,48,48,48],231,32,[74,82],[[107],[101]],false⟩,
 ⟨[48,48,112,112,48,48,48,49,32,76,68,32,112,44,119],[48,48,112,112,48,48,48,49],207,1,[76,68],[[112],[119]],false⟩,
 ⟨[48,48,112,112,49,48,48,49,32,65,68,68,32,72,76,44,112],[48,48,112,112,49,48,48,49],207,9,[65,68,68],[[72,76],[112]],false⟩,
 ⟨[48,48,48,48,48,48,49,48,32,76,68,32,40,66,67,41,44,65],[48,48,48,48,48,48,49,48],255,2,[76,68],[[40,66,67,41],[65]],false⟩,
 ⟨[48,48,48,49,48,48,49,48,32,76,68,32,40,68,69,41,44,65],[48,48,48,49,48,48,49,48],255,18,[76,68],[[40,68,69,41],[65]],false⟩,
 ⟨[48,48,49,48,48,48,49,48,32,76,68,32,40,119,41,44,72,76],[48,48,49,48,48,48,49,48],255,34,[76,68],[[40,119,41],[72,76]],false⟩,
 ⟨[48,48,49,49,48,48,49,48,32,76,68,32,40,119,41,44,65],[48,48,49,49,48,48,49,48],255,50,[76,68],[[40,119,41],[65]],false⟩,
 ⟨[48,48,48,48,49,48,49,48,32,76,68,32,65,44,40,66,67,41],[48,48,48,48,49,48,49,48],255,10,[76,68],[[65],[40,66,67,41]],false⟩,
 ⟨[48,48,48,49,49,48,49,48,32,76,68,32,65,44,40,68,69,41],[48,48,48,49,49,48,49,48],255,26,[76,68],[[65],[40,68,69,41]],false⟩,
 ⟨[48,48,49,48,49,48,49,48,32,76,68,32,72,76,44,40,119,41],[48,48,49,48,49,48,49,48],255,42,[76,68],[[72,76],[40,119,41]],false⟩,
 ⟨[48,48,49,49,49,48,49,48,32,76,68,32,65,44,40,119,41],[48,48,49,49,49,48,49,48],255,58,[76,68],[[65],[40,119,41]],false⟩,
 ⟨[48,48,112,112,48,48,49,49,32,73,78,67,32,112],[48,48,112,112,48,48,49,49],207,3,[73,78,67],[[112]],false⟩,
 ⟨[48,48,112,112,49,48,49,49,32,68,69,67,32,112],[48,48,112,112,49,48,49,49],207,11,[68,69,67],[[112]],false⟩,
 ⟨[48,48,114,114,114,49,48,48,32,73,78,67,32,114],[48,48,114,114,114,49,48,48],199,4,[73,78,67],[[114]],false⟩,
 ⟨[48,48,114,114,114,49,48,49,32,68,69,67,32,114],[48,48,114,114,114,49,48,49],199,5,[68,69,67],[[114]],false⟩,
 ⟨[48,48,114,114,114,49,49,48,32,76,68,32,114,44,110],[48,48,114,114,114,49,49,48],199,6,[76,68],[[114],[110]],false⟩,
 ⟨[48,48,48,48,48,49,49,49,32,82,76,67,65],[48,48,48,48,48,49,49,49],255,7,[82,76,67,65],[],false⟩,
 ⟨[48,48,48,48,49,49,49,49,32,82,82,67,65],[48,48,48,48,49,49,49,49],255,15,[82,82,67,65],[],false⟩,
 ⟨[48,48,48,49,48,49,49,49,32,82,76,65],[48,48,48,49,48,49,49,49],255,23,[82,76,65],[],false⟩,
 ⟨[48,48,48,49,49,49,49,49,32,82,82,65],[48,48,48,49,49,49,49,49],255,31,[82,82,65],[],false⟩,
 ⟨[48,48,49,48,48,49,49,49,32,68,65,65],[48,48,49,48,48,49,49,49],255,39,[68,65,65],[],false⟩,
 ⟨[48,48,49,48,49,49,49,49,32,67,80,76],[48,48,49,48,49,49,49,49],255,47,[67,80,76],[],false⟩,
 ⟨[48,48,49,49,48,49,49,49,32,83,67,70],[48,48,49,49,48,49,49,49],255,55,[83,67,70],[],false⟩,
 ⟨[48,48,49,49,49,49,49,49,32,67,67,70],[48,48,49,49,49,49,49,49],255,63,[67,67,70],[],false⟩,
 ⟨[48,49,49,49,48,49,49,48,32,72,65,76,84],[48,49,49,49,48,49,49,48],255,118,[72,65,76,84],[],false⟩,
 ⟨[48,49,114,114,114,115,115,115,32,76,68,32,114,44,115],[48,49,114,114,114,115,115,115],192,64,[76,68],[[114],[115]],false⟩,
 ⟨[49,48,48,48,48,115,115,115,32,65,68,68,32,65,44,115],[49,48,48,48,48,115,115,115],248,128,[65,68,68],[[65],[115]],false⟩,
 ⟨[49,48,48,48,49,115,115,115,32,65,68,67,32,65,44,115],[49,48,48,48,49,115,115,115],248,136,[65,68,67],[[65],[115]],false⟩,
 ⟨[49,48,48,49,48,115,115,115,32,83,85,66,32,115],[49,48,48,49,48,115,115,115],248,144,[83,85,66],[[115]],false⟩,
 ⟨[49,48,48,49,49,115,115,115,32,83,66,67,32,65,44,115],[49,48,48,49,49,115,115,115],248,152,[83,66,67],[[65],[115]],false⟩,
 ⟨[49,48,49,48,48,115,115,115,32,65,78,68,32,115],[49,48,49,48,48,115,115,115],248,160,[65,78,68],[[115]],false⟩,
 ⟨[49,48,49,48,49,115,115,115,32,88,79,82,32,115],[49,48,49,48,49,115,115,115],248,168,[88,79,82],[[115]],false⟩,
 ⟨[49,48,49,49,48,115,115,115,32,79,82,32,115],[49,48,49,49,48,115,115,115],248,176,[79,82],[[115]],false⟩,
 ⟨[49,48,49,49,49,115,115,115,32,67,80,32,115],[49,48,49,49,49,115,115,115],248,184,[67,80],[[115]],false⟩,
 ⟨[49,49,99,99,99,48,48,48,32,82,69,84,32,99],[49,49,99,99,99,48,48,48],199,192,[82,69,84],[[99]],false⟩,
 ⟨[49,49,113,113,48,48,48,49,32,80,79,80,32,113],[49,49,113,113,48,48,48,49],207,193,[80,79,80],[[113]],false⟩,
 ⟨[49,49,48,48,49,48,48,49,32,82,69,84],[49,49,48,48,49,48,48,49],255,201,[82,69,84],[],false⟩,
 ⟨[49,49,48,49,49,48,48,49,32,69,88,88],[49,49,48,49,49,48,48,49],255,217,[69,88,88],[],false⟩,
 ⟨[49,49,49,48,49,48,48,49,32,74,80,32,40,72,76,41],[49,49,49,48,49,48,48,49],255,233,[74,80],[[40,72,76,41]],false⟩,
 ⟨[49,49,49,49,49,48,48,49,32,76,68,32,83,80,44,72,76],[49,49,49,49,49,48,48,49],255,249,[76,68],[[83,80],[72,76]],false⟩,
 ⟨[49,49,99,99,99,48,49,48,32,74,80,32,99,44,119],[49,49,99,99,99,48,49,48],199,194,[74,80],[[99],[119]],false⟩,
 ⟨[49,49,48,48,48,48,49,49,32,74,80,32,119],[49,49,48,48,48,48,49,49],255,195,[74,80],[[119]],false⟩,
 ⟨[49,49,48,49,48,48,49,49,32,79,85,84,32,40,110,41,44,65],[49,49,48,49,48,48,49,49],255,211,[79,85,84],[[40,110,41],[65]],false⟩,
 ⟨[49,49,48,49,49,48,49,49,32,73,78,32,65,44,40,110,41],[49,49,48,49,49,48,49,49],255,219,[73,78],[[65],[40,110,41]],false⟩,
 ⟨[49,49,49,48,48,48,49,49,32,69,88,32,40,83,80,41,44,72,76],[49,49,49,48,48,48,49,49],255,227,[69,88],[[40,83,80,41],[72,76]],false⟩,
 ⟨[49,49,49,48,49,48,49,49,32,69,88,32,68,69,44,72,76],[49,49,49,48,49,48,49,49],255,235,[69,88],[[68,69],[72,76]],false⟩,
 ⟨[49,49,49,49,48,48,49,49,32,68,73],[49,49,49,49,48,48,49,49],255,243,[68,73],[],false⟩,
 ⟨[49,49,49,49,49,48,49,49,32,69,73],[49,49,49,49,49,48,49,49],255,251,[69,73],[],false⟩,
 ⟨[49,49,99,99,99,49,48,48,32,67,65,76,76,32,99,44,119],[49,49,99,99,99,49,48,48],199,196,[67,65,76,76],[[99],[119]],false⟩,
 ⟨[49,49,113,113,48,49,48,49,32,80,85,83,72,32,113],[49,49,113,113,48,49,48,49],207,197,[80,85,83,72],[[113]],false⟩,
 ⟨[49,49,48,48,49,49,48,49,32,67,65,76,76,32,119],[49,49,48,48,49,49,48,49],255,205,[67,65,76,76],[[119]],false⟩,
 ⟨[49,49,48,48,48,49,49,48,32,65,68,68,32,65,44,110],[49,49,48,48,48,49,49,48],255,198,[65,68,68],[[65],[110]],false⟩,
 ⟨[49,49,48,48,49,49,49,48,32,65,68,67,32,65,44,110],[49,49,48,48,49,49,49,48],255,206,[65,68,67],[[65],[110]],false⟩,
 ⟨[49,49,48,49,48,49,49,48,32,83,85,66,32,110],[49,49,48,49,48,49,49,48],255,214,[83,85,66],[[110]],false⟩,
 ⟨[49,49,48,49,49,49,49,48,32,83,66,67,32,65,44,110],[49,49,48,49,49,49,49,48],255,222,[83,66,67],[[65],[110]],false⟩,
 ⟨[49,49,49,48,48,49,49,48,32,65,78,68,32,110],[49,49,49,48,48,49,49,48],255,230,[65,78,68],[[110]],false⟩,
 ⟨[49,49,49,48,49,49,49,48,32,88,79,82,32,110],[49,49,49,48,49,49,49,48],255,238,[88,79,82],[[110]],false⟩,
 ⟨[49,49,49,49,48,49,49,48,32,79,82,32,110],[49,49,49,49,48,49,49,48],255,246,[79,82],[[110]],false⟩,
 ⟨[49,49,49,49,49,49,49,48,32,67,80,32,110],[49,49,49,49,49,49,49,48],255,254,[67,80],[[110]],false⟩,
 ⟨[49,49,116,116,116,49,49,49,32,82,83,84,32,116],[49,49,116,116,116,49,49,49],199,199,[82,83,84],[[116]],false⟩]
def cbR:List Rule:=[
 ⟨[48,48,48,48,48,115,115,115,32,82,76,67,32,115],[48,48,48,48,48,115,115,115],248,0,[82,76,67],[[115]],false⟩,
 ⟨[48,48,48,48,49,115,115,115,32,82,82,67,32,115],[48,48,48,48,49,115,115,115],248,8,[82,82,67],[[115]],false⟩,
 ⟨[48,48,48,49,48,115,115,115,32,82,76,32,115],[48,48,48,49,48,115,115,115],248,16,[82,76],[[115]],false⟩,
 ⟨[48,48,48,49,49,115,115,115,32,82,82,32,115],[48,48,48,49,49,115,115,115],248,24,[82,82],[[115]],false⟩,
 ⟨[48,48,49,48,48,115,115,115,32,83,76,65,32,115],[48,48,49,48,48,115,115,115],248,32,[83,76,65],[[115]],false⟩,
 ⟨[48,48,49,48,49,115,115,115,32,83,82,65,32,115],[48,48,49,48,49,115,115,115],248,40,[83,82,65],[[115]],false⟩,
 ⟨[48,48,49,49,48,115,115,115,32,83,76,76,32,115],[48,48,49,49,48,115,115,115],248,48,[83,76,76],[[115]],false⟩,
 ⟨[48,48,49,49,49,115,115,115,32,83,82,76,32,115],[48,48,49,49,49,115,115,115],248,56,[83,82,76],[[115]],false⟩,
 ⟨[48,49,98,98,98,115,115,115,32,66,73,84,32,98,44,115],[48,49,98,98,98,115,115,115],192,64,[66,73,84],[[98],[115]],false⟩,
 ⟨[49,48,98,98,98,115,115,115,32,82,69,83,32,98,44,115],[49,48,98,98,98,115,115,115],192,128,[82,69,83],[[98],[115]],false⟩,
 ⟨[49,49,98,98,98,115,115,115,32,83,69,84,32,98,44,115],[49,49,98,98,98,115,115,115],192,192,[83,69,84],[[98],[115]],false⟩]
def edR:List Rule:=[
 ⟨[48,49,49,49,48,48,48,48,32,73,78,32,40,67,41],[48,49,49,49,48,48,48,48],255,112,[73,78],[[40,67,41]],false⟩,
 ⟨[48,49,114,114,114,48,48,48,32,73,78,32,114,44,40,67,41],[48,49,114,114,114,48,48,48],199,64,[73,78],[[114],[40,67,41]],false⟩,
 ⟨[48,49,49,49,48,48,48,49,32,79,85,84,32,40,67,41,44,48],[48,49,49,49,48,48,48,49],255,113,[79,85,84],[[40,67,41],[48]],false⟩,
 ⟨[48,49,114,114,114,48,48,49,32,79,85,84,32,40,67,41,44,114],[48,49,114,114,114,48,48,49],199,65,[79,85,84],[[40,67,41],[114]],false⟩,
 ⟨[48,49,112,112,48,48,49,48,32,83,66,67,32,72,76,44,112],[48,49,112,112,48,48,49,48],207,66,[83,66,67],[[72,76],[112]],false⟩,
 ⟨[48,49,112,112,49,48,49,48,32,65,68,67,32,72,76,44,112],[48,49,112,112,49,48,49,48],207,74,[65,68,67],[[72,76],[112]],false⟩,
 ⟨[48,49,49,48,48,48,49,49,32,76,68,32,40,119,41,44,72,76,32,42],[48,49,49,48,48,48,49,49],255,99,[76,68],[[40,119,41],[72,76]],true⟩,
 ⟨[48,49,49,48,49,48,49,49,32,76,68,32,72,76,44,40,119,41,32,42],[48,49,49,48,49,48,49,49],255,107,[76,68],[[72,76],[40,119,41]],true⟩,
 ⟨[48,49,112,112,48,48,49,49,32,76,68,32,40,119,41,44,112],[48,49,112,112,48,48,49,49],207,67,[76,68],[[40,119,41],[112]],false⟩,
 ⟨[48,49,112,112,49,48,49,49,32,76,68,32,112,44,40,119,41],[48,49,112,112,49,48,49,49],207,75,[76,68],[[112],[40,119,41]],false⟩,
 ⟨[48,49,48,48,48,49,48,48,32,78,69,71],[48,49,48,48,48,49,48,48],255,68,[78,69,71],[],false⟩,
 ⟨[48,49,120,120,120,49,48,48,32,78,69,71,32,42],[48,49,120,120,120,49,48,48],199,68,[78,69,71],[],true⟩,
 ⟨[48,49,48,48,49,49,48,49,32,82,69,84,73],[48,49,48,48,49,49,48,49],255,77,[82,69,84,73],[],false⟩,
 ⟨[48,49,48,48,48,49,48,49,32,82,69,84,78],[48,49,48,48,48,49,48,49],255,69,[82,69,84,78],[],false⟩,
 ⟨[48,49,120,120,120,49,48,49,32,82,69,84,78,32,42],[48,49,120,120,120,49,48,49],199,69,[82,69,84,78],[],true⟩,
 ⟨[48,49,48,48,48,49,49,48,32,73,77,32,48],[48,49,48,48,48,49,49,48],255,70,[73,77],[[48]],false⟩,
 ⟨[48,49,48,49,48,49,49,48,32,73,77,32,49],[48,49,48,49,48,49,49,48],255,86,[73,77],[[49]],false⟩,
 ⟨[48,49,48,49,49,49,49,48,32,73,77,32,50],[48,49,48,49,49,49,49,48],255,94,[73,77],[[50]],false⟩,
 ⟨[48,49,120,48,120,49,49,48,32,73,77,32,48,32,42],[48,49,120,48,120,49,49,48],215,70,[73,77],[[48]],true⟩,
 ⟨[48,49,49,49,48,49,49,48,32,73,77,32,49,32,42],[48,49,49,49,48,49,49,48],255,118,[73,77],[[49]],true⟩,
 ⟨[48,49,49,49,49,49,49,48,32,73,77,32,50,32,42],[48,49,49,49,49,49,49,48],255,126,[73,77],[[50]],true⟩,
 ⟨[48,49,48,48,48,49,49,49,32,76,68,32,73,44,65],[48,49,48,48,48,49,49,49],255,71,[76,68],[[73],[65]],false⟩,
 ⟨[48,49,48,48,49,49,49,49,32,76,68,32,82,44,65],[48,49,48,48,49,49,49,49],255,79,[76,68],[[82],[65]],false⟩,
 ⟨[48,49,48,49,48,49,49,49,32,76,68,32,65,44,73],[48,49,48,49,48,49,49,49],255,87,[76,68],[[65],[73]],false⟩,
 ⟨[48,49,48,49,49,49,49,49,32,76,68,32,65,44,82],[48,49,48,49,49,49,49,49],255,95,[76,68],[[65],[82]],false⟩,
 ⟨[48,49,49,48,48,49,49,49,32,82,82,68],[48,49,49,48,48,49,49,49],255,103,[82,82,68],[],false⟩,
 ⟨[48,49,49,48,49,49,49,49,32,82,76,68],[48,49,49,48,49,49,49,49],255,111,[82,76,68],[],false⟩,
 ⟨[49,48,49,48,48,48,48,48,32,76,68,73],[49,48,49,48,48,48,48,48],255,160,[76,68,73],[],false⟩,
 ⟨[49,48,49,48,48,48,48,49,32,67,80,73],[49,48,49,48,48,48,48,49],255,161,[67,80,73],[],false⟩,
 ⟨[49,48,49,48,48,48,49,48,32,73,78,73],[49,48,49,48,48,48,49,48],255,162,[73,78,73],[],false⟩,
 ⟨[49,48,49,48,48,48,49,49,32,79,85,84,73],[49,48,49,48,48,48,49,49],255,163,[79,85,84,73],[],false⟩,
 ⟨[49,48,49,48,49,48,48,48,32,76,68,68],[49,48,49,48,49,48,48,48],255,168,[76,68,68],[],false⟩,
 ⟨[49,48,49,48,49,48,48,49,32,67,80,68],[49,48,49,48,49,48,48,49],255,169,[67,80,68],[],false⟩,
 ⟨[49,48,49,48,49,48,49,48,32,73,78,68],[49,48,49,48,49,48,49,48],255,170,[73,78,68],[],false⟩,
 ⟨[49,48,49,48,49,48,49,49,32,79,85,84,68],[49,48,49,48,49,48,49,49],255,171,[79,85,84,68],[],false⟩,
 ⟨[49,48,49,49,48,48,48,48,32,76,68,73,82],[49,48,49,49,48,48,48,48],255,176,[76,68,73,82],[],false⟩,
 ⟨[49,48,49,49,48,48,48,49,32,67,80,73,82],[49,48,49,49,48,48,48,49],255,177,[67,80,73,82],[],false⟩,
 ⟨[49,48,49,49,48,48,49,48,32,73,78,73,82],[49,48,49,49,48,48,49,48],255,178,[73,78,73,82],[],false⟩,
 ⟨[49,48,49,49,48,48,49,49,32,79,84,73,82],[49,48,49,49,48,48,49,49],255,179,[79,84,73,82],[],false⟩,
 ⟨[49,48,49,49,49,48,48,48,32,76,68,68,82],[49,48,49,49,49,48,48,48],255,184,[76,68,68,82],[],false⟩,
 ⟨[49,48,49,49,49,48,48,49,32,67,80,68,82],[49,48,49,49,49,48,48,49],255,185,[67,80,68,82],[],false⟩,
 ⟨[49,48,49,49,49,48,49,48,32,73,78,68,82],[49,48,49,49,49,48,49,48],255,186,[73,78,68,82],[],false⟩,
 ⟨[49,48,49,49,49,48,49,49,32,79,84,68,82],[49,48,49,49,49,48,49,49],255,187,[79,84,68,82],[],false⟩]
def rulesOf (p:Nat):List Rule:=if p=0∨p=3∨p=4 then mainR else if p=1∨p=5∨p=6 then cbR else if p=2 then edR else []
def Rule.fits (r:Rule) (op:Nat):Bool:=op &&& r.mask == r.val
def lookR (rs:List Rule) (op:Nat):Option Rule:=rs.find? fun r=>r.fits op
def fieldV (op:Nat) (letter:UInt8):Nat→List UInt8→Nat→Nat
 | _,[],n=>n
 | i,b::bs,n=>fieldV op letter (i+1) bs (if b=letter then 2 * n+(op >>> (7 - i)) % 2 else n)
def regOp:Nat→Op3
 | 6=>(4,2,0)
 | n=>(1,n,0)
def wordT (s:List UInt8):Op3 :=
 if s=[65] then (1,7,0) else if s=[73] then (9,0,0) else if s=[82] then (9,1,0)
 else if s=[72,76] then (3,2,0) else if s=[65,70] then (3,4,0) else if s=[65,70,39] then (3,7,0) else if s=[83,80] then (3,3,0) else if s=[68,69] then (3,1,0)
 else if s=[40,66,67,41] then (4,0,0) else if s=[40,68,69,41] then (4,1,0) else if s=[40,72,76,41] then (4,2,0) else if s=[40,83,80,41] then (4,3,0) else if s=[40,67,41] then (4,8,0)
 else (0,0,0)
def argP (bits:List UInt8) (op:Nat) (s:List UInt8):Op3 × List UInt8 :=
 if s=[40,110,41] then ((7,0,0),[110]) else if s=[40,119,41] then ((7,0,0),[119])
 else match s with
  | [c] =>
    let f:=fieldV op c 0 bits 0
    if c=114∨c=115 then (regOp f,[])
    else if c=112 then ((3,f,0),[])
    else if c=113 then ((3,if f=3 then 4 else f,0),[])
    else if c=99∨c=107 then ((8,f,0),[])
    else if c=98 then ((6,0,f),[])
    else if c=116 then ((6,0,8 * f),[])
    else if c=101 then ((10,0,0),[101])
    else if c=110∨c=119 then ((6,0,0),[c])
    else if c=48∨c=49∨c=50 then ((6,0,(c - 48).toNat),[])
    else (wordT s,[])
  | _=>(wordT s,[])
def entOf (page op:Nat) (r:Rule):Ent:=⟨page,op,r.mn,r.args.map fun s=>(argP r.bits op s).1,r.args.flatMap fun s=>(argP r.bits op s).2,r.alias⟩
def findP (page:Nat) (rs:List Rule) (op:Nat):Option Ent:=(lookR rs op).map (entOf page op)
def chgP (reg:Int) (o:Op3):Option Op3 :=
 if o=(4,2,0)∨o=(3,2,0) then some (o.1,reg,o.2.2)
 else if o.1=1∧(o.2.1=4∨o.2.1=5) then some (2,2 * (reg - 5)+o.2.1 - 4,0) else none
def idxAt (l:List Op3):Option Nat:=l.findIdx? fun o=>o == (4,2,0)
def indexedP (e:Ent) (page:Nat):Option Ent :=
 let reg:Int:=page - 3+5
 let i:=idxAt e.args
 if i.isSome∧e.mn≠[74,80] then some { e with page:=page,args:=e.args.set (i.getD 0) (5,reg,0),extra:=100::e.extra }
 else if e.op=0xEB then none
 else if e.args.any (fun o=>(chgP reg o).isSome) then some { e with page:=page,args:=e.args.map fun o=>(chgP reg o).getD o } else none
def bothP (page op:Nat):Option Ent :=
 (findP page cbR (op / 8 * 8+6)).map fun e =>
  let s:=op % 8
  let l:=e.args.set (e.args.length - 1) (5,(page:Int) - 5+5,0)
  if s=6 then { e with op:=op,extra:=[100],args:=l }
  else if e.mn=[66,73,84] then { e with op:=op,extra:=[100],args:=l,alias:=true }
  else { e with op:=op,extra:=[100],args:=l++[((1:Int),(s:Int),(0:Int))] }
def atP (page op:Nat):Option Ent × Nat :=
 if page=0 then match findP 0 mainR op with | some e=>(some e,1) | none=>(none,2)
 else if page=1 then match findP 1 cbR op with | some e=>(some e,1) | none=>(none,0)
 else if page=2 then match findP 2 edR op with | some e=>(some e,1) | none=>(none,3)
 else if page=3∨page=4 then
  if op=0xCB then (none,2) else match (findP page mainR op).bind (indexedP · page) with | some e=>(some e,1) | none=>(none,0)
 else if page=5∨page=6 then (bothP page op,1)
 else (none,0)
abbrev Ins2:=List UInt8 × List Op3
def accP (i:Ins2):List Op3 :=
 if i.1∈([[83,85,66],[65,78,68],[88,79,82],[79,82],[67,80]]:List (List UInt8))∧i.2.length=2∧i.2.head? = some (1,7,0) then i.2.tail
 else if i.1∈([[65,68,68],[65,68,67],[83,66,67]]:List (List UInt8))∧i.2.length=1 then (1,7,0)::i.2 else i.2
def exP (mn:List UInt8) (l:List Op3):List Op3:=if mn=[69,88]∧l=[(3,2,0),(3,1,0)] then [(3,1,0),(3,2,0)] else l
def widthP (i:Ins2):Nat :=
 if i.1∈([[66,73,84],[82,69,83],[83,69,84],[73,77],[82,83,84],[79,85,84]]:List (List UInt8)) then 0
 else if i.1∈([[74,80],[67,65,76,76]]:List (List UInt8))∨i.1=[76,68]∧i.2.head?.map (·.1)=some 3 then 2 else 1
def posP (w:Nat) (o:Op3):Op3 :=
 if o.1=6∧o.2.2<0∧(w=1∧-128≤o.2.2∨w=2∧-32768≤o.2.2) then (o.1,o.2.1,o.2.2+if w=1 then 256 else 65536) else o
def canonP (i:Ins2):Ins2:=(i.1,(exP i.1 (accP i)).map (posP (widthP i)))
theorem width_steps (i:Ins2):widthP (i.1,exP i.1 (accP i))=widthP i:=by
 obtain ⟨m,l⟩:=i
 unfold widthP
 dsimp only
 split
 · rfl
 · by_cases h:m=[76,68]
   · subst h
     have h1:accP ([76,68],l)=l:=by unfold accP; dsimp only; rw [if_neg (by intro h; exact absurd h.1 (by decide)),if_neg (by intro h; exact absurd h.1 (by decide))]
     have h2:exP [76,68] l=l:=by unfold exP; rw [if_neg (by intro h; exact absurd h.1 (by decide))]
     rw [h1,h2]
   · simp [h]
def lastK (ks:List Int) (l:List Op3):Option Nat:=((List.range l.length).reverse.find? fun k=>decide ((l.getD k (0,0,0)).1∈ks))
def dIdx (e:Ent):Option Nat:=if 100∈e.extra then lastK [5] e.args else none
def nIdx (e:Ent):Option (Nat × UInt8) :=
 if 101∈e.extra then (lastK [10] e.args).map (·,101) else if 110∈e.extra then (lastK [6,7] e.args).map (·,110) else if 119∈e.extra then (lastK [6,7] e.args).map (·,119) else none
def withinP (c:UInt8) (n:Int):Bool:=if c=100∨c=101 then decide (-128≤n) && decide (n≤127) else if c=110 then decide (0≤n) && decide (n≤255) else decide (0≤n) && decide (n≤65535)
def numAt (l:List Op3) (k:Nat):Int:=(l.getD k (0,0,0)).2.2
def zeroAt (l:List Op3) (k:Nat):List Op3:=match l[k]? with | some o=>l.set k (o.1,o.2.1,0) | none=>l
def shapeOf (l:List Op3):List (Int × Int):=l.map fun o=>(o.1,o.2.1)
def shapedP (e:Ent) (c:Ins2):Bool:=decide (e.mn=c.1) && decide (shapeOf e.args=shapeOf c.2)
def dPart (e:Ent) (l:List Op3):Bool × List Op3 × Int:=match dIdx e with | none=>(true,l,0) | some k=>(withinP 100 (numAt l k),zeroAt l k,numAt l k)
def nPart (e:Ent) (l:List Op3):Bool × List Op3 × Int:=match nIdx e with | none=>(true,l,0) | some (k,c)=>(withinP c (numAt l k),zeroAt l k,numAt l k)
def fitsV (e:Ent) (c:Ins2):Option (Int × Int) :=
 if shapedP e c=false then none
 else
  let d:=dPart e c.2
  let n:=nPart e d.2.1
  if d.1 && n.1 && decide (n.2.1=e.args) then some (d.2.2,n.2.2) else none
def letterR (e:Ent) (k:Nat):UInt8 :=
 let o:=e.args.getD k (0,0,0)
 if o.1=5∧100∈e.extra then 100 else if o.1=10∧101∈e.extra then 101
 else if o.1≠6∧o.1≠7 then 0
 else if (e.args.drop (k+1)).any (fun p=>decide (p.1=6) || decide (p.1=7)) then 0
 else if 110∈e.extra then 110 else if 119∈e.extra then 119 else 0
def okR (e:Ent) (l:List Op3) (k:Nat):Bool:=if letterR e k=0 then decide (numAt e.args k=numAt l k) else withinP (letterR e k) (numAt l k)
def fitsR (e:Ent) (c:Ins2):Bool:=shapedP e c && (List.range c.2.length).all (okR e c.2)
def idxK (k r:Int):Int:=if k=2 then (if r=0∨r=1 then 5 else if r=2∨r=3 then 6 else 0) else if k=3∨k=4∨k=5 then (if r=5 then 5 else if r=6 then 6 else 0) else 0
def pagesP:List Op3→List Nat
 | []=>[0,1,2]
 | o::l=>if idxK o.1 o.2.1=5 then [3,5] else if idxK o.1 o.2.1=6 then [4,6] else pagesP l
def isIx (o:Op3):Bool:=decide (o.1=2) || (decide (3≤o.1) && decide (o.1≤5) && (decide (o.2.1=5) || decide (o.2.1=6)))
def pagesR (l:List Op3):List Nat:=if l.any isIx then [3,4,5,6] else [0,1,2]
def entsL (p:Nat):List Ent:=(List.range 256).filterMap fun op=>(atP p op).1
def ownR (p:Nat) (mn:List UInt8):List Rule:=(rulesOf p).filter fun r=>decide (r.mn=mn)
def namedAt (p:Nat) (mn:List UInt8) (op:Nat):Option Ent :=
 if (ownR p mn).any (fun r=>r.fits op)=false then none
 else match lookR (rulesOf p) op with | none=>none | some r=>if r.mn=mn then (atP p op).1 else none
def namedE (mn:List UInt8) (ps:List Nat):List Ent:=ps.flatMap fun p=>(List.range 256).filterMap (namedAt p mn)
def scanC (f:Ent→Bool) (c:Ins2):List Ent→Int→Option Ent × Int
 | [],code=>(none,code)
 | e::l,code=>if e.alias || !shapedP e c then scanC f c l code else if f e then (some e,0) else scanC f c l 2
def entryP (c:Ins2):Option Ent × Int:=scanC (fun e=>(fitsV e c).isSome) c (namedE c.1 (pagesP c.2)) 11
def entryR (c:Ins2):Option Ent × Int:=scanC (fun e=>fitsR e c) c ((pagesR c.2).flatMap entsL) 11
def letterP (e:Ent) (k:Nat):UInt8:=if dIdx e=some k then 100 else match nIdx e with | some (j,c)=>if j=k then c else 0 | none=>0
def entOk (p op:Nat) (e:Ent):Bool :=
 (List.range 4).all (fun k=>decide (k<e.args.length→letterR e k=letterP e k∧(letterR e k≠0→numAt e.args k=0))) && decide (e.args.length≤3) &&
 decide ((dIdx e).all (·<e.args.length)) && decide ((nIdx e).all fun x=>x.1<e.args.length && decide (dIdx e≠some x.1)) &&
 (if p=3∨p=5 then e.args.any isIx && e.args.all fun o=>idxK o.1 o.2.1=5 || idxK o.1 o.2.1=0 else if p=4∨p=6 then e.args.any isIx && e.args.all fun o=>idxK o.1 o.2.1=6 || idxK o.1 o.2.1=0 else e.args.all fun o=>!isIx o) &&
 (match lookR (rulesOf p) op with | some r=>decide (r.mn=e.mn) && r.fits op && decide (r∈rulesOf p) | none=>false) && decide (e.page=p) && decide (e.op=op) && decide (e.mn≠[]) && e.args.all (fun o=>decide (o.1=2→0≤o.2.1∧o.2.1≤3))
set_option maxRecDepth 100000 in
theorem ents_ok:∀ p:Fin 7,∀ op:Fin 256,(match (atP p.val op.val).1 with | some e=>entOk p.val op.val e | none=>true)=true:=by decide +kernel
theorem ent_ok {p op:Nat} {e:Ent} (hp:p<7) (ho:op<256) (h:(atP p op).1=some e):entOk p op e=true:=by
 have:=ents_ok ⟨p,hp⟩ ⟨op,ho⟩
 simp only [h] at this
 exact this
theorem zero_len (l:List Op3) (k:Nat):(zeroAt l k).length=l.length:=by unfold zeroAt; split<;>simp
theorem zero_get (l:List Op3) (k j:Nat):(zeroAt l k).getD j (0,0,0)=if j=k then ((l.getD j (0,0,0)).1,(l.getD j (0,0,0)).2.1,0) else l.getD j (0,0,0):=by
 unfold zeroAt
 simp only [List.getD]
 by_cases hj:j=k
 · subst hj
   rw [if_pos rfl]
   cases h:l[j]? with
   | none=>simp [h]
   | some o =>
     have:=(List.getElem?_eq_some_iff.1 h).1
     simp [this]
 · rw [if_neg hj]
   cases h:l[k]? with
   | none=>rfl
   | some o=>rw [List.getElem?_set_ne (fun e=>hj e.symm)]
theorem zero_num (l:List Op3) (k j:Nat):numAt (zeroAt l k) j=if j=k then 0 else numAt l j:=by
 unfold numAt; rw [zero_get]; split<;>rfl
theorem getD_ext {a b:List Op3} (h:a.length=b.length):a=b↔∀ j,j<a.length→a.getD j (0,0,0)=b.getD j (0,0,0):=by
 constructor
 · rintro rfl _ _; rfl
 · intro hh
   apply List.ext_getElem h
   intro j h1 h2
   have:=hh j h1
   simpa [List.getD,List.getElem?_eq_getElem h1,List.getElem?_eq_getElem h2] using this
theorem shape_get {a b:List Op3} (h:shapeOf a=shapeOf b) (j:Nat):(a.getD j (0,0,0)).1=(b.getD j (0,0,0)).1∧(a.getD j (0,0,0)).2.1=(b.getD j (0,0,0)).2.1:=by
 have h2:(shapeOf a)[j]? = (shapeOf b)[j]? := by rw [h]
 unfold shapeOf at h2
 rw [List.getElem?_map,List.getElem?_map] at h2
 simp only [List.getD]
 cases ha:a[j]? with
 | none=>cases hb:b[j]? with
   | none=>exact ⟨rfl,rfl⟩
   | some y=>rw [ha,hb] at h2; simp at h2
 | some x=>cases hb:b[j]? with
   | none=>rw [ha,hb] at h2; simp at h2
   | some y=>rw [ha,hb] at h2; simp at h2; exact h2
theorem shape_len {a b:List Op3} (h:shapeOf a=shapeOf b):a.length=b.length:=by
 have:=congrArg List.length h
 simpa [shapeOf] using this
theorem nIdx_ne {e:Ent} {x:Nat × UInt8} (h:nIdx e=some x):x.2≠0:=by
 unfold nIdx at h
 split at h
 · obtain ⟨k,_,rfl⟩:=Option.map_eq_some_iff.1 h; exact (by decide:(101:UInt8)≠0)
 · split at h
   · obtain ⟨k,_,rfl⟩:=Option.map_eq_some_iff.1 h; exact (by decide:(110:UInt8)≠0)
   · split at h
     · obtain ⟨k,_,rfl⟩:=Option.map_eq_some_iff.1 h; exact (by decide:(119:UInt8)≠0)
     · cases h
theorem op3_ext {x y:Op3} (h1:x.1=y.1) (h2:x.2.1=y.2.1) (h3:x.2.2=y.2.2):x=y:=by
 obtain ⟨a,b,c⟩:=x; obtain ⟨d,e,f⟩:=y; simp_all
theorem entOk_parts {p op:Nat} {e:Ent} (h:entOk p op e=true) :
 (∀ k,k<4→k<e.args.length→letterR e k=letterP e k∧(letterR e k≠0→numAt e.args k=0))∧e.args.length≤3∧(∀ k,dIdx e=some k→k<e.args.length)∧(∀ x,nIdx e=some x→x.1<e.args.length∧dIdx e≠some x.1):=by
 unfold entOk at h
 simp only [Bool.and_eq_true,List.all_eq_true,decide_eq_true_eq,List.mem_range,Option.all_eq_true] at h
 obtain ⟨⟨⟨⟨⟨⟨⟨⟨⟨h1,h2⟩,h3⟩,h4⟩,_⟩,_⟩,_⟩,_⟩,_⟩,_⟩:=h
 exact ⟨fun k hk=>h1 k hk,h2,h3,h4⟩
theorem fits_both {p op:Nat} {e:Ent} (c:Ins2) (h:entOk p op e=true):fitsR e c=(fitsV e c).isSome:=by
 obtain ⟨hL,h3,hd,hn⟩:=entOk_parts h
 unfold fitsR fitsV
 cases hs:shapedP e c with
 | false=>simp
 | true =>
   rw [if_neg (by simp),Bool.true_and]
   unfold shapedP at hs
   simp only [Bool.and_eq_true,decide_eq_true_eq] at hs
   have hlen:=shape_len hs.2
   have hsh:=shape_get hs.2
   obtain ⟨l,hl⟩:∃ l,c.2=l:=⟨_,rfl⟩
   rw [hl] at hlen hsh ⊢
   have hZ:∀ Z:List Op3,Z.length=l.length→(∀ j,(Z.getD j (0,0,0)).1=(l.getD j (0,0,0)).1∧(Z.getD j (0,0,0)).2.1=(l.getD j (0,0,0)).2.1)→(Z=e.args↔∀ j,j<l.length→numAt Z j=numAt e.args j):=fun Z hz hg=>by
    rw [getD_ext (hz.trans hlen.symm),hz]
    constructor
    · intro q j hj; unfold numAt; rw [q j hj]
    · intro q j hj
      exact op3_ext ((hg j).1.trans (hsh j).1.symm) ((hg j).2.trans (hsh j).2.symm) (q j hj)
   have hzk:∀ (m:List Op3) k j,((zeroAt m k).getD j (0,0,0)).1=(m.getD j (0,0,0)).1∧((zeroAt m k).getD j (0,0,0)).2.1=(m.getD j (0,0,0)).2.1:=fun m k j=>by rw [zero_get]; split<;>exact ⟨rfl,rfl⟩
   have fin:∀ {a b:Bool},(a=true↔b=true)→a=b:=fun {a b} h=>Bool.eq_iff_iff.2 h
   apply fin
   rw [List.all_eq_true]
   simp only [List.mem_range]
   have hlet:∀ j,j<l.length→letterR e j=letterP e j∧(letterR e j≠0→numAt e.args j=0):=fun j hj=>hL j (by omega) (by omega)
   unfold dPart
   cases hdi:dIdx e with
   | none =>
     unfold nPart
     cases hni:nIdx e with
     | none =>
       simp only [Bool.true_and,decide_eq_true_eq]
       have hz:=hZ l rfl (fun j=>⟨rfl,rfl⟩)
       constructor
       · intro q
         rw [if_pos (hz.2 fun j hj=>by
          have:=q j hj
          unfold okR at this
          rw [(hlet j hj).1] at this
          unfold letterP at this
          rw [hdi,hni] at this
          simp at this
          exact this.symm)]
         rfl
       · intro q j hj
         split at q
         · rename_i hq
           unfold okR
           rw [(hlet j hj).1]
           unfold letterP
           rw [hdi,hni]
           simp
           exact (hz.1 hq j hj).symm
         · cases q
     | some x =>
       obtain ⟨k,ch⟩:=x
       have hch:=nIdx_ne hni
       obtain ⟨hk,_⟩:=hn _ hni
       dsimp only at hch hk
       have hz:=hZ (zeroAt l k) (zero_len l k) (hzk l k)
       have hlp:∀ j,letterP e j=if k=j then ch else 0:=fun j=>by unfold letterP; rw [hdi,hni]; simp
       simp only [Bool.true_and,Bool.and_eq_true,decide_eq_true_eq]
       constructor
       · intro q
         rw [if_pos ⟨by
          have:=q k (by omega)
          unfold okR at this
          rw [(hlet k (by omega)).1,hlp,if_pos rfl,if_neg hch] at this
          exact this,hz.2 fun j hj=>by
          rw [zero_num]
          have:=q j hj
          unfold okR at this
          by_cases hjk:j=k
          · subst hjk
            rw [if_pos rfl]
            exact ((hlet j hj).2 (by rw [(hlet j hj).1,hlp,if_pos rfl]; exact hch)).symm
          · rw [if_neg hjk]
            rw [(hlet j hj).1,show letterP e j=0 from (by rw [hlp,if_neg (fun e=>hjk e.symm)]),if_pos rfl,decide_eq_true_eq] at this
            exact this.symm⟩]
         rfl
       · intro q j hj
         split at q
         · rename_i hq
           obtain ⟨hq1,hq2⟩:=hq
           have:=hz.1 hq2 j hj
           rw [zero_num] at this
           unfold okR
           rw [(hlet j hj).1,hlp]
           by_cases hjk:k=j
           · subst hjk
             rw [if_pos rfl,if_neg hch]
             exact hq1
           · rw [if_neg hjk,if_pos rfl,decide_eq_true_eq]
             rw [if_neg (fun e=>hjk e.symm)] at this
             exact this.symm
         · cases q
   | some d =>
     have hdk:=hd d hdi
     unfold nPart
     cases hni:nIdx e with
     | none =>
       have hz:=hZ (zeroAt l d) (zero_len l d) (hzk l d)
       have hlp:∀ j,letterP e j=if d=j then 100 else 0:=fun j=>by unfold letterP; rw [hdi,hni]; simp
       simp only [Bool.and_true,Bool.and_eq_true,decide_eq_true_eq]
       constructor
       · intro q
         rw [if_pos ⟨by
          have:=q d (by omega)
          unfold okR at this
          rw [(hlet d (by omega)).1,hlp,if_pos rfl,if_neg (by decide)] at this
          exact this,hz.2 fun j hj=>by
          rw [zero_num]
          have:=q j hj
          unfold okR at this
          by_cases hjk:j=d
          · subst hjk
            rw [if_pos rfl]
            exact ((hlet j hj).2 (by rw [(hlet j hj).1,hlp,if_pos rfl]; decide)).symm
          · rw [if_neg hjk]
            rw [(hlet j hj).1,show letterP e j=0 from (by rw [hlp,if_neg (fun e=>hjk e.symm)]),if_pos rfl,decide_eq_true_eq] at this
            exact this.symm⟩]
         rfl
       · intro q j hj
         split at q
         · rename_i hq
           obtain ⟨hq1,hq2⟩:=hq
           have:=hz.1 hq2 j hj
           rw [zero_num] at this
           unfold okR
           rw [(hlet j hj).1,hlp]
           by_cases hjk:d=j
           · subst hjk
             rw [if_pos rfl,if_neg (by decide)]
             exact hq1
           · rw [if_neg hjk,if_pos rfl,decide_eq_true_eq]
             rw [if_neg (fun e=>hjk e.symm)] at this
             exact this.symm
         · cases q
     | some x =>
       obtain ⟨k,ch⟩:=x
       have hch:=nIdx_ne hni
       obtain ⟨hk,hne⟩:=hn _ hni
       dsimp only at hch hk hne
       have hkd:k≠d:=fun e=>hne (by rw [hdi,e])
       have hz:=hZ (zeroAt (zeroAt l d) k) (by rw [zero_len,zero_len]) (fun j=>⟨(hzk _ k j).1.trans (hzk l d j).1,(hzk _ k j).2.trans (hzk l d j).2⟩)
       have hlp:∀ j,letterP e j=if d=j then 100 else if k=j then ch else 0:=fun j=>by unfold letterP; rw [hdi,hni]; simp
       simp only [Bool.and_eq_true,decide_eq_true_eq]
       constructor
       · intro q
         rw [if_pos ⟨⟨by
          have:=q d (by omega)
          unfold okR at this
          rw [(hlet d (by omega)).1,hlp,if_pos rfl,if_neg (by decide)] at this
          exact this,by
          have:=q k (by omega)
          unfold okR at this
          rw [(hlet k (by omega)).1,show letterP e k=ch from (by rw [hlp,if_neg (fun e=>hkd e.symm),if_pos rfl]),if_neg hch] at this
          rw [zero_num,if_neg hkd]
          exact this⟩,hz.2 fun j hj=>by
          rw [zero_num,zero_num]
          have:=q j hj
          unfold okR at this
          by_cases hjk:j=k
          · subst hjk
            rw [if_pos rfl]
            exact ((hlet j hj).2 (by rw [(hlet j hj).1,show letterP e j=ch from (by rw [hlp,if_neg (fun e=>hkd e.symm),if_pos rfl])]; exact hch)).symm
          · rw [if_neg hjk]
            by_cases hjd:j=d
            · subst hjd
              rw [if_pos rfl]
              exact ((hlet j hj).2 (by rw [(hlet j hj).1,hlp,if_pos rfl]; decide)).symm
            · rw [if_neg hjd]
              rw [(hlet j hj).1,show letterP e j=0 from (by rw [hlp,if_neg (fun e=>hjd e.symm),if_neg (fun e=>hjk e.symm)]),if_pos rfl,decide_eq_true_eq] at this
              exact this.symm⟩]
         rfl
       · intro q j hj
         split at q
         · rename_i hq
           obtain ⟨⟨hq1,hq3⟩,hq2⟩:=hq
           have:=hz.1 hq2 j hj
           rw [zero_num,zero_num] at this
           rw [zero_num,if_neg hkd] at hq3
           unfold okR
           rw [(hlet j hj).1,hlp]
           by_cases hjd:d=j
           · subst hjd
             rw [if_pos rfl,if_neg (by decide)]
             exact hq1
           · rw [if_neg hjd]
             by_cases hjk:k=j
             · subst hjk
               rw [if_pos rfl,if_neg hch]
               exact hq3
             · rw [if_neg hjk,if_pos rfl,decide_eq_true_eq]
               rw [if_neg (fun e=>hjk e.symm),if_neg (fun e=>hjd e.symm)] at this
               exact this.symm
         · cases q
def keepC (c:Ins2) (e:Ent):Bool:=!(e.alias || !shapedP e c)
theorem scan_filter (f:Ent→Bool) (c:Ins2):∀ (l:List Ent) (code:Int),scanC f c l code=scanC f c (l.filter (keepC c)) code
 | [],_=>rfl
 | e::l,code=>by
   conv=>lhs; unfold scanC
   cases h:e.alias || !shapedP e c with
   | true=>rw [List.filter_cons_of_neg (by unfold keepC; rw [h]; simp),if_pos rfl]; exact scan_filter f c l code
   | false =>
     rw [List.filter_cons_of_pos (by unfold keepC; rw [h]; rfl)]
     conv=>rhs; unfold scanC
     have ih:=scan_filter f c l 2
     cases hf:f e with
     | true=>simp [h]
     | false=>simp [h,ih]
theorem scan_congr (f g:Ent→Bool) (c:Ins2):∀ (l:List Ent) (code:Int),(∀ e∈l,f e=g e)→scanC f c l code=scanC g c l code
 | [],_,_=>rfl
 | e::l,code,h=>by
   unfold scanC
   rw [h e List.mem_cons_self,scan_congr f g c l code fun x hx=>h x (List.mem_cons_of_mem _ hx),scan_congr f g c l 2 fun x hx=>h x (List.mem_cons_of_mem _ hx)]
theorem filter_fm {α:Type} (g:Nat→Option α) (k:α→Bool) (l:List Nat):(l.filterMap g).filter k=l.filterMap fun x=>(g x).filter k:=by
 induction l with
 | nil=>rfl
 | cons a l ih =>
   rw [List.filterMap_cons,List.filterMap_cons]
   cases g a with
   | none=>simpa using ih
   | some y=>cases hk:k y with
     | true=>simp [hk,ih,Option.filter]
     | false=>simp [hk,ih,Option.filter]
theorem fm_congr {α:Type} {f g:Nat→Option α}:∀ l:List Nat,(∀ x∈l,f x=g x)→l.filterMap f=l.filterMap g
 | [],_=>rfl
 | a::l,h=>by
   rw [List.filterMap_cons,List.filterMap_cons,h a List.mem_cons_self,fm_congr l fun x hx=>h x (List.mem_cons_of_mem _ hx)]
theorem entsL_mem {p:Nat} {e:Ent}:e∈entsL p↔∃ op,op<256∧(atP p op).1=some e:=by
 unfold entsL
 simp [List.mem_filterMap]
theorem entsL_ok {p:Nat} (hp:p<7) {e:Ent} (h:e∈entsL p):∃ op,entOk p op e=true:=by
 obtain ⟨op,ho,h⟩:=entsL_mem.1 h
 exact ⟨op,ent_ok hp ho h⟩
theorem entOk_rule {p op:Nat} {e:Ent} (h:entOk p op e=true):∃ r,lookR (rulesOf p) op=some r∧r.mn=e.mn∧r.fits op=true∧r∈rulesOf p:=by
 unfold entOk at h
 simp only [Bool.and_eq_true] at h
 obtain ⟨⟨⟨⟨⟨_,h1⟩,_⟩,_⟩,_⟩,_⟩:=h
 split at h1
 · rename_i r hr
   simp only [Bool.and_eq_true,decide_eq_true_eq] at h1
   exact ⟨r,hr,h1.1.1,h1.1.2,h1.2⟩
 · cases h1
theorem named_keep {p:Nat} (hp:p<7) (c:Ins2):((List.range 256).filterMap (namedAt p c.1)).filter (keepC c)=(entsL p).filter (keepC c):=by
 unfold entsL
 rw [filter_fm,filter_fm]
 apply fm_congr
 intro op ho
 rw [List.mem_range] at ho
 have hkeep:∀ e,keepC c e=true→e.mn=c.1:=fun e h=>by
  unfold keepC shapedP at h
  simp at h
  exact h.2.1
 cases ha:(atP p op).1 with
 | none =>
   have:namedAt p c.1 op=none:=by
    unfold namedAt
    rw [ha]
    split
    · rfl
    · split
      · rfl
      · split<;>rfl
   rw [this]
 | some e =>
   obtain ⟨r,h1,h2,h3,h4⟩:=entOk_rule (ent_ok hp ho ha)
   by_cases hm:r.mn=c.1
   · have:namedAt p c.1 op=some e:=by
      unfold namedAt
      rw [if_neg (by
       rw [Bool.not_eq_false,List.any_eq_true]
       exact ⟨r,by unfold ownR; rw [List.mem_filter]; exact ⟨h4,by simpa using hm⟩,h3⟩),h1,ha]
      dsimp only
      rw [if_pos hm]
     rw [this]
   · have:namedAt p c.1 op=none:=by
      unfold namedAt
      split
      · rfl
      · rw [h1]
        dsimp only
        rw [if_neg hm]
     rw [this]
     cases hk:keepC c e with
     | false=>simp [hk,Option.filter]
     | true=>exact absurd (h2.trans (hkeep e hk)) hm
theorem flat_filter {α β:Type} (f g:α→List β) (k:β→Bool):∀ l:List α,(∀ x∈l,(f x).filter k=(g x).filter k)→(l.flatMap f).filter k=(l.flatMap g).filter k
 | [],_=>rfl
 | a::l,h=>by
   rw [List.flatMap_cons,List.flatMap_cons,List.filter_append,List.filter_append,h a List.mem_cons_self,flat_filter f g k l fun x hx=>h x (List.mem_cons_of_mem _ hx)]
theorem pagesP_cases:∀ l:List Op3,(pagesP l=[0,1,2]∧∀ o∈l,idxK o.1 o.2.1≠5∧idxK o.1 o.2.1≠6)∨(pagesP l=[3,5]∧∃ o∈l,idxK o.1 o.2.1=5)∨(pagesP l=[4,6]∧∃ o∈l,idxK o.1 o.2.1=6)
 | []=>.inl ⟨rfl,fun o h=>by cases h⟩
 | o::l=>by
   unfold pagesP
   by_cases h5:idxK o.1 o.2.1=5
   · rw [if_pos h5]; exact .inr (.inl ⟨rfl,o,List.mem_cons_self,h5⟩)
   · rw [if_neg h5]
     by_cases h6:idxK o.1 o.2.1=6
     · rw [if_pos h6]; exact .inr (.inr ⟨rfl,o,List.mem_cons_self,h6⟩)
     · rw [if_neg h6]
       rcases pagesP_cases l with ⟨h,k⟩ | ⟨h,x,hx,k⟩ | ⟨h,x,hx,k⟩
       · exact .inl ⟨h,fun y hy=>by rcases List.mem_cons.1 hy with rfl | hy; exact ⟨h5,h6⟩; exact k y hy⟩
       · exact .inr (.inl ⟨h,x,List.mem_cons_of_mem _ hx,k⟩)
       · exact .inr (.inr ⟨h,x,List.mem_cons_of_mem _ hx,k⟩)
theorem isIx_of {o:Op3} (h:idxK o.1 o.2.1=5∨idxK o.1 o.2.1=6):isIx o=true:=by
 unfold idxK at h
 unfold isIx
 split at h
 · simp_all
 · split at h
   · rename_i h2
     split at h
     · rename_i h3; simp [h3]; omega
     · split at h
       · rename_i h3; simp [h3]; omega
       · simp at h
   · simp at h
theorem idxK_of {o:Op3} (h:isIx o=true) (hk:o.1=2→0≤o.2.1∧o.2.1≤3):idxK o.1 o.2.1=5∨idxK o.1 o.2.1=6:=by
 unfold isIx at h
 unfold idxK
 simp at h
 by_cases h2:o.1=2
 · rw [if_pos h2]
   obtain ⟨h3,h4⟩:=hk h2
   by_cases h5:o.2.1=0∨o.2.1=1
   · rw [if_pos h5]; exact .inl rfl
   · rw [if_neg h5,if_pos (by omega)]; exact .inr rfl
 · rw [if_neg h2]
   rcases h with h | ⟨⟨h3,h4⟩,h5⟩
   · exact absurd h h2
   · rw [if_pos (by omega)]
     rcases h5 with h5 | h5
     · rw [if_pos h5]; exact .inl rfl
     · rw [if_neg (by omega),if_pos h5]; exact .inr rfl
theorem shaped_kinds {e:Ent} {c:Ins2} (h:shapedP e c=true) {o:Op3} (ho:o∈c.2):∃ x∈e.args,x.1=o.1∧x.2.1=o.2.1:=by
 unfold shapedP at h
 simp only [Bool.and_eq_true,decide_eq_true_eq] at h
 have:(o.1,o.2.1)∈shapeOf c.2:=List.mem_map.2 ⟨o,ho,rfl⟩
 rw [←h.2] at this
 obtain ⟨x,hx,e⟩:=List.mem_map.1 this
 simp at e
 exact ⟨x,hx,e⟩
theorem entOk_pages {p op:Nat} {e:Ent} (h:entOk p op e=true):((p=3∨p=5)→∀ o∈e.args,idxK o.1 o.2.1≠6)∧((p=4∨p=6)→∀ o∈e.args,idxK o.1 o.2.1≠5):=by
 unfold entOk at h
 simp only [Bool.and_eq_true] at h
 obtain ⟨⟨⟨⟨⟨⟨_,h1⟩,_⟩,_⟩,_⟩,_⟩,_⟩:=h
 constructor
 · intro hp o ho
   rw [if_pos hp,Bool.and_eq_true,List.all_eq_true] at h1
   have:=h1.2 o ho
   simp at this
   omega
 · intro hp o ho
   rw [if_neg (by omega),if_pos hp,Bool.and_eq_true,List.all_eq_true] at h1
   have:=h1.2 o ho
   simp at this
   omega
theorem other_page {c:Ins2} {p:Nat} (hp:p<7) {v:Int} (hv:∃ o∈c.2,idxK o.1 o.2.1=v) (h:∀ op e,entOk p op e=true→∀ o∈e.args,idxK o.1 o.2.1≠v):(entsL p).filter (keepC c)=[]:=by
 rw [List.filter_eq_nil_iff]
 intro e he hk
 obtain ⟨op,hop⟩:=entsL_ok hp he
 unfold keepC at hk
 simp at hk
 obtain ⟨o,ho,hov⟩:=hv
 obtain ⟨x,hx,h1,h2⟩:=shaped_kinds hk.2 ho
 exact h op e hop x hx (by rw [h1,h2]; exact hov)
theorem entry_both (c:Ins2) (hc:∀ o∈c.2,o.1=2→0≤o.2.1∧o.2.1≤3):entryP c=entryR c:=by
 have hpg:∀ ps:List Nat,(∀ p∈ps,p<7)→(namedE c.1 ps).filter (keepC c)=(ps.flatMap entsL).filter (keepC c):=fun ps hps=>flat_filter _ _ _ ps fun p hp=>named_keep (hps p hp) c
 have hpp:(namedE c.1 (pagesP c.2)).filter (keepC c)=((pagesR c.2).flatMap entsL).filter (keepC c):=by
  rcases pagesP_cases c.2 with ⟨h,k⟩ | ⟨h,o,ho,k⟩ | ⟨h,o,ho,k⟩
  · rw [h,hpg _ (by decide)]
    have:pagesR c.2=[0,1,2]:=by
     unfold pagesR
     rw [if_neg]
     rw [List.any_eq_true]
     rintro ⟨o,ho,hi⟩
     rcases idxK_of hi (hc o ho) with q | q
     · exact (k o ho).1 q
     · exact (k o ho).2 q
    rw [this]
  · rw [h,hpg _ (by decide)]
    have:pagesR c.2=[3,4,5,6]:=by
     unfold pagesR
     rw [if_pos (List.any_eq_true.2 ⟨o,ho,isIx_of (.inl k)⟩)]
    rw [this]
    have e4:=other_page (c:=c) (p:=4) (by decide) ⟨o,ho,k⟩ (fun op e h=>(entOk_pages h).2 (.inl rfl))
    have e6:=other_page (c:=c) (p:=6) (by decide) ⟨o,ho,k⟩ (fun op e h=>(entOk_pages h).2 (.inr rfl))
    simp [List.flatMap_cons,e4,e6]
  · rw [h,hpg _ (by decide)]
    have:pagesR c.2=[3,4,5,6]:=by
     unfold pagesR
     rw [if_pos (List.any_eq_true.2 ⟨o,ho,isIx_of (.inr k)⟩)]
    rw [this]
    have e3:=other_page (c:=c) (p:=3) (by decide) ⟨o,ho,k⟩ (fun op e h=>(entOk_pages h).1 (.inl rfl))
    have e5:=other_page (c:=c) (p:=5) (by decide) ⟨o,ho,k⟩ (fun op e h=>(entOk_pages h).1 (.inr rfl))
    simp [List.flatMap_cons,e3,e5]
 unfold entryP entryR
 rw [scan_filter,hpp,scan_filter (fun e=>fitsR e c)]
 apply scan_congr
 intro e he
 have he2:=(List.mem_filter.1 he).1
 obtain ⟨p,hp,hpe⟩:=List.mem_flatMap.1 he2
 have hp7:p<7:=by
  unfold pagesR at hp
  split at hp
  · simp at hp; omega
  · simp at hp; omega
 obtain ⟨op,hop⟩:=entsL_ok hp7 hpe
 exact (fits_both c hop).symm
end Go.Proofs.YtkldoojonnkfgaaGreatDoor
