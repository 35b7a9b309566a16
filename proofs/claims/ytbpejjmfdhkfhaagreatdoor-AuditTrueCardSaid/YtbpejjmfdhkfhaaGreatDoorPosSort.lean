/- Imports alone. -/
import Derived.Test.YtbpejjmfdhkfhaaGreatDoorShelf
import Derived.Shelf.Sort.Plain
